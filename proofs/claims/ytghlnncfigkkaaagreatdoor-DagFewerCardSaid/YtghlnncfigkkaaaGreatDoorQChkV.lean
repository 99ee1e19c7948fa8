/-
 Walk of check.Check.
-/
import Derived.Test.YtghlnncfigkkaaaGreatDoorQChkY
import Derived.Test.YtghlnncfigkkaaaGreatDoorQChkA
import Derived.Deep.DeepCutAuto
set_option maxRecDepth 100000
set_option maxHeartbeats 8000000
open Go.Lib (hid)
namespace Go.Proofs.YtghlnncfigkkaaaGreatDoor
set_option linter.unusedVariables false
set_option linter.unusedSimpArgs false
open Go.RowKit
def OutSh (w:World) (base q:Nat) (shapes:List (List Int)):Prop:=∃ svs:List Value,w.heap[q]?=some (.cells svs.toArray 41 (0,0))∧base≤q∧svs.length=shapes.length ∧
 (∀ (j:Nat) (v:Value) (l:List Int),svs[j]?=some v→shapes[j]?=some l→l.length≤2∧∃ A c,v=.slice A l.length c∧Own w base 3 A c (l.map VI)) ∧
 ∀ (i j:Nat) (u v:Value),i<j→svs[i]?=some u→svs[j]?=some v→u.ownBlock=none∨u.ownBlock≠v.ownBlock
def ZgO (w:World) (ne:Nat) (r:Sum (List (List Int)) (Nat × Int)) (e:Ending) (w':World):Prop:=
 Below w.heap.size w w' ∧
 match r with
 | .inl shapes=>∃ q,e=.returned (.tuple #[.slice (some ⟨q,0,none⟩) ne ne,.nilIface])∧OutSh w' w.heap.size q shapes
 | .inr (c,p)=>∃ v,e=.returned (.tuple #[.slice none 0 0,v])∧IsErr w' v [(chkN,p)] c
def CkNew (w3:World) (B:Nat) (SA EA:Option Addr) (ns sc ne ec:Nat) (init:List (List Int)) (s:Value) (wx:World):Prop:=
 ∃ cb g sg,s=.pointer (some ⟨cb,0,none⟩)∧CkSt wx B cb g sg SA EA ns sc ne ec [] init∧Below w3.heap.size w3 wx
theorem ZcI (w:World) (a b c:Obj):(((w.alloc a).alloc b).alloc c).drew.heap[w.heap.size]?=some a∧(((w.alloc a).alloc b).alloc c).drew.heap[w.heap.size+1]?=some b ∧
  (((w.alloc a).alloc b).alloc c).drew.heap[w.heap.size+1+1]?=some c∧Below w.heap.size w (((w.alloc a).alloc b).alloc c).drew:=by
 refine ⟨?_,?_,?_,((((Kai _ _).alloc (Kag _) _).alloc (by simp) _).alloc (by simp;omega) _).drew⟩
 ·show (((w.alloc a).alloc b).alloc c).heap[w.heap.size]?=_
  rw [Below.heap_alloc _ _ _ (by simp;omega),Below.heap_alloc _ _ _ (by simp)]
  exact Kac w a
 ·show (((w.alloc a).alloc b).alloc c).heap[w.heap.size+1]?=_
  rw [Below.heap_alloc _ _ _ (by simp)]
  have:=Kac (w.alloc a) b
  rwa [World.size_alloc] at this
 ·have:=Kac ((w.alloc a).alloc b) c
  rwa [World.size_alloc,World.size_alloc] at this
theorem cknew {w3 wx:World} {B cb g sg ns sc ne ec:Nat} {SA EA:Option Addr} {es:List EI} (hne:ne=es.length) (hB:B≤w3.heap.size) (h1:w3.heap.size≤cb) (h2:w3.heap.size≤g) (h3:w3.heap.size≤sg) (n1:cb≠g) (n2:cb≠sg) (n3:g≠sg)
  (hc:wx.heap[cb]?=some (.cells #[.slice SA ns sc,.slice EA ne ec,.map (some g),.slice (some ⟨sg,0,none⟩) ne ne] 185 (0,0)))
  (hg:wx.heap[g]?=some (.map #[] 0)) (hs:wx.heap[sg]?=some (.cells (Array.replicate ne (Value.slice none 0 0)) 41 (0,0))) (hb:Below w3.heap.size w3 wx):
  CkNew w3 B SA EA ns sc ne ec (es.map fun _=>[]) (.pointer (some ⟨cb,0,none⟩)) wx:=by
 refine ⟨cb,g,sg,rfl,⟨by omega,by omega,by omega,n1,n2,n3,hc,⟨[],⟨#[],0,hg,rfl⟩,trivial⟩,List.replicate ne (Value.slice none 0 0),by rw [hs];simp,by simp,by simp [hne],fun j v l hv hl => ?_⟩,hb⟩
 have hv':v=.slice none 0 0:=(List.eq_of_mem_replicate (Kam hv))
 rw [Kal,Option.map_eq_some_iff] at hl
 obtain ⟨_,_,rfl⟩:=hl
 rw [hv']
 exact ShV.nil _ _
theorem ZeN {es:List EI} {s:SI} (r:List SI) (names:Names) (sh:List (List Int)) (inp:Nat) (h:s.kind=1):Zaj es (s::r) names sh inp =
  if (s.party≠0∧s.party≠1)∨Zad s.shape=0 then .inr (141,s.pos) else if ZaC names s.name then .inr (140,s.pos) else if 8≤inp then .inr (5,s.pos) else Zaj es r (names++[(s.name,s.shape)]) sh (inp+1):=by
 rw [Zaj,if_pos h]
 rfl
theorem ZeO {es:List EI} {s:SI} (r:List SI) (names:Names) (sh:List (List Int)) (inp:Nat) (h:s.kind=2):Zaj es (s::r) names sh inp =
  match Zay es (Zac es s.expr.toNat) names (s.expr.toNat+1) 0 sh with
  | .inr x=>.inr x
  | .inl sh'=>if ZaC names s.name then .inr (140,s.pos) else Zaj es r (names++[(s.name,sh'.getD s.expr.toNat [])]) sh' inp:=by
 rw [Zaj,if_neg (by rw [h];decide),if_pos h]
 rfl
theorem ZeP {es:List EI} {s:SI} (r:List SI) (names:Names) (sh:List (List Int)) (inp:Nat) (h:s.kind=3):Zaj es (s::r) names sh inp =
  if (findN names s.name).isNone then .inr (140,s.pos) else Zaj es r names sh inp:=by
 rw [Zaj,if_neg (by rw [h];decide),if_neg (by rw [h];decide)]
theorem ZaX {l:List Int} (h:Zad l≠0):l.length≤2:=by
 unfold Zad at h
 split at h
 ·exact absurd rfl h
 ·split at h
  ·exact absurd rfl h
  ·omega
def OutK (w:World) (q B ne:Nat) (sh:List (List Int)) (k:Nat):Prop:=∃ svs:List Value,w.heap[q]?=some (.cells svs.toArray 41 (0,0))∧svs.length=ne ∧
 (∀ (j:Nat) (v:Value) (l:List Int),j<k→svs[j]?=some v→sh[j]?=some l→l.length≤2∧∃ A c,v=.slice A l.length c∧Own w B 3 A c (l.map VI)∧∀ b,blk A=some b→q<b) ∧
 ∀ (i j:Nat) (u v:Value),i<j→j<k→svs[i]?=some u→svs[j]?=some v→u.ownBlock=none∨u.ownBlock≠v.ownBlock
theorem Zi2 {w:World} {base:Nat} {e:TypeId} {A:Option Addr} {cap:Nat} {xs:List Value} (h:Own w base e A cap xs) {q k:Nat} (v:Value) (hq:∀ b,blk A=some b→b≠q):Own (w.setCell ⟨q,k,none⟩ v) base e A cap xs:=by
 refine ⟨h.1,?_⟩
 rcases h.2 with hv | ⟨g,cap',cur,hv,hb1,hg,r⟩
 ·exact .inl hv
 ·refine .inr ⟨g,cap',cur,hv,hb1,?_,r⟩
  have:blk A=some g:=by injection hv with a;rw [a];rfl
  simp only [World.setCell,Array.getElem?_modify]
  rw [if_neg (fun e=>hq g this e.symm)]
  exact hg
theorem OutK.step {w w7:World} {q B ne k:Nat} {sh:List (List Int)} (h:OutK w q B ne sh k) (hq:q<w.heap.size) (hB:B≤q) (hb:Below w.heap.size w w7) {A':Option Addr} {c':Nat} {l:List Int} (ho:Own w7 w.heap.size 3 A' c' (l.map VI)) (hl:sh[k]?=some l) (h2:l.length≤2) (hk:k<ne):
  OutK (w7.setCell ⟨q,k,none⟩ (.slice A' l.length c')) q B ne sh (k+1):=by
 obtain ⟨svs,h1,hlen,ha,hp⟩:=h
 refine ⟨svs.set k (.slice A' l.length c'),?_,by simpa using hlen,fun j v m hj hv hm => ?_,fun i j u v hij hj hu hv => ?_⟩
 ·simp [World.setCell,Array.getElem?_modify,(hb.block q hq).trans h1]
 ·rw [List.getElem?_set] at hv
  by_cases e:k=j
  ·subst e
   rw [if_pos rfl,if_pos (by omega)] at hv
   injection hv with hv
   subst hv
   rw [hl] at hm
   injection hm with hm
   subst hm
   refine ⟨h2,A',c',rfl,Zi2 (ho.more (by omega)) _ (fun b hb' => ?_),fun b hb' => ?_⟩
   ·have:=(ho.lt b hb').1;omega
   ·have:=(ho.lt b hb').1;omega
  ·rw [if_neg e] at hv
   obtain ⟨m2,A,c,e1,e2,e3⟩:=ha j v m (by omega) hv hm
   exact ⟨m2,A,c,e1,Zi2 (e2.next hb) _ (fun b hb'=>by have:=e3 b hb';omega),e3⟩
 ·rw [List.getElem?_set] at hu hv
  rw [if_neg (by omega)] at hu
  by_cases e:k=j
  ·subst e
   rw [if_pos rfl,if_pos (by omega)] at hv
   injection hv with hv
   subst hv
   have hil:i<sh.length:=by have:=(Kaf.1 hl).1;omega
   obtain ⟨_,A,c,e1,e2,e3⟩:=ha i u (sh[i]) hij hu (Kad hil)
   subst e1
   rw [Za4,Za4]
   cases hA:blk A with
   | none=>exact .inl rfl
   | some b=>
    right
    intro e
    have:=(e2.lt b hA).2
    have:=(ho.lt b e.symm).1
    omega
  ·rw [if_neg e] at hv
   exact hp i j u v hij (by omega) hu hv
theorem OutK.done {w:World} {q B ne:Nat} {sh:List (List Int)} (h:OutK w q B ne sh ne) (hB:B≤q) (hl:sh.length=ne):OutSh w B q sh:=by
 obtain ⟨svs,h1,hlen,ha,hp⟩:=h
 refine ⟨svs,h1,hB,by omega,fun j v l hv hl => ?_,fun i j u v hij hu hv=>hp i j u v hij (by have:=(Kaf.1 hv).1;omega) hu hv⟩
 obtain ⟨m2,A,c,e1,e2,_⟩:=ha j v l (by have:=(Kaf.1 hv).1;omega) hv hl
 exact ⟨m2,A,c,e1,e2⟩
theorem Zi3 (SA EA:Option Addr) (ns ne sc ec:Nat) (ss:List SI) (es:List EI) (w:World) (hns:ns=ss.length) (hne:ne=es.length) (hl1:ns≤100000) (hl2:ne≤100000)
  (h1:RdSI w w.heap.size SA ss) (h3:RdEI w w.heap.size EA es) (hg:ETyped w):
  Calls Tryz.prog 51 #[.agg #[.slice SA ns sc,.slice EA ne ec]] w (ZgO w ne (ZaA ss es)):=by
 obtain ⟨w2,hw2⟩:∃ w2,w2=w.alloc (.cells #[.slice SA ns sc,.slice EA ne ec] 26):=⟨_,rfl⟩
 have hb2:Below w.heap.size w w2:=by rw [hw2];exact (Kai _ _).alloc (Kag _) _
 have hA:w2.heap[w.heap.size]?=some (.cells #[.slice SA ns sc,.slice EA ne ec] 26 (0,0)):=by rw [hw2];exact Kac w _
 have HGW:=hid hg.lt
 have HW2:=hid hw2
 have HB2:=hid hb2
 have HNS:=hid hns
 have HNE:=hid hne
 have H1:=hid h1
 have H3:=hid h3
 have HG:=hid hg
 have HT:=hid (Zkf SA EA ns ne sc ec ss es w2 hns hne ⟨by omega,by omega⟩ (h1.next hb2) (h3.next hb2))
 have HAW:=hid (fun W (hW:Below w2.heap.size w2 W)=>(hW.block _ (Kab.1 hA).1).trans hA)
 clear hw2 hb2 hA hns hne h1 h3 hg
 cases htr:treeP ss es with
 | false=>
  rw [htr] at HT
  have HC:=hid (show ZaA ss es=.inr (130,0) from by unfold ZaA;rw [htr];rfl)
  clear htr
  go_enter Tryz.func51,Tryz.ntmps51
  go_wp2_with fail
  rw [←HW2.out]
  refine HT.out.mono ?_
  rintro e w3 ⟨rfl,hb3⟩
  have HB3:=hid (bnext HB2.out hb3)
  have HG3:=hid (HG.out.far HGW.out HB3.out)
  clear hb3
  go_wp2_with (go_at_call 94;refine (Zb8 130 0 _ HG3.out).mono ?_;rintro e w6 ⟨ve,rfl,hve,hb6⟩)
  go_ret2
  refine ⟨bnext HB3.out hb6,?_⟩
  rw [HC.out]
  exact ⟨ve,rfl,hve⟩
 | true=>
  rw [htr] at HT
  have HTR:=hid htr
  have HEX:=hid (show exsOk 0 es=true from by unfold treeP at htr;rw [Bool.and_eq_true] at htr;exact htr.1)
  have HSX:=hid (show ∀ s∈ss,smOk ne s=true from by unfold treeP at htr;rw [Bool.and_eq_true,List.all_eq_true] at htr;rw [HNE.out];exact htr.2)
  clear htr
  go_enter Tryz.func51,Tryz.ntmps51
  go_wp2_with fail
  rw [←HW2.out]
  refine HT.out.mono ?_
  rintro e w3 ⟨rfl,hb3⟩
  have hA3:=HAW.out _ hb3
  have z0:=Kaa _ _ 0 _ _ _ hA3
  have z1:=Kaa _ _ 1 _ _ _ hA3
  have HB3:=hid (bnext HB2.out hb3)
  have HA3:=hid hA3
  have hmm := @run_makeMap Tryz.prog
  have hlt3:w.heap.size<w3.heap.size:=(Kab.1 hA3).1
  have hne3:w.heap.size≠w3.heap.size:=by omega
  have hne4:w.heap.size≠w3.heap.size+1:=by omega
  have hmk:=fun W=>Zc1 ne (by omega) W (ne:Int) rfl
  clear hb3 hA3
  go_wp2_with fail
  go_cut [4] (fun s wx=>CkNew w3 w.heap.size SA EA ns sc ne ec (es.map fun _=>[]) s wx)
  case first=>
   go_region
   all_goals
    go_wp2_with fail
    go_meet
    first
     | (obtain ⟨t0,t1,t2,tb⟩:=ZcI w3 (.map #[] 0) (.cells (Array.replicate ne (Value.slice none 0 0)) 41) (.cells #[.slice SA ns sc,.slice EA ne ec,.map (some w3.heap.size),.slice (some ⟨w3.heap.size+1,0,none⟩) ne ne] 185);exact cknew HNE.out HB3.out.size (by omega) (by omega) (by omega) (by omega) (by omega) (by omega) t2 t0 t1 tb)
     | (obtain ⟨t0,t1,t2,tb⟩:=ZcI w3 (.cells (Array.replicate ne (Value.slice none 0 0)) 41) (.map #[] 0) (.cells #[.slice SA ns sc,.slice EA ne ec,.map (some (w3.heap.size+1)),.slice (some ⟨w3.heap.size,0,none⟩) ne ne] 185);exact cknew HNE.out HB3.out.size (by omega) (by omega) (by omega) (by omega) (by omega) (by omega) t2 t1 t0 tb)
  case rest=>
   obtain ⟨cb,g,sg,rfl,hS,hb⟩:=hcut
   obtain ⟨w5,hw5⟩:∃ w5,w5=wc:=⟨_,rfl⟩
   rw [←hw5]
   rw [←hw5] at hS hb
   have hA5:=(hb.block _ hlt3).trans HA3.out
   have z5:=Kaa _ _ 0 _ _ _ hA5
   have HS5:=hid hS
   have HB5:=hid (bnext HB3.out hb)
   clear hw5 z0 z1 hA5 hS hb hmm hmk hne3 hne4 hlt3
   go_wp2
   clear z5
   have HCC:=hid (show ZaA ss es=Zaj es ss [] (es.map fun _=>[]) 0 from by unfold ZaA;rw [HTR.out];rfl)
   have HBB:=hid (show ∀ (w':World),Below w.heap.size w w'→RdSI w' w.heap.size SA ss∧RdEI w' w.heap.size EA es∧ETyped w' from fun w' h=>⟨H1.out.below h,H3.out.below h,HG.out.far HGW.out h⟩)
   clear HB3 HA3 HT HAW HW2 HB2
   go_loopw [5,28] (fun pv iv wr=>∃ (k inp:Nat) (names:Names) (sh:List (List Int)),k≤ns∧iv=.int .i64 k∧pv=.int .i64 inp∧inp≤k∧Zaj es ss [] (es.map fun _=>[]) 0=Zaj es (ss.drop k) names sh inp∧CkSt wr w.heap.size cb g sg SA EA ns sc ne ec names sh∧Below w.heap.size w wr) (fun _ iv _=>ns-(intOf iv).toNat)
   case atStart=>exact ⟨0,0,[],_,by omega,rfl,rfl,by omega,rfl,HS5.out,HB5.out⟩
   case round=>
    clear HS5 HB5
    obtain ⟨k,inp,names,sh,hk,rfl,rfl,hinp,hR,hS,hB⟩:=hrel
    have HR:=hid hR
    have HS:=hid hS
    have HB:=hid hB
    obtain ⟨r1,r3,rg⟩:=HBB.out _ hB
    clear hR hS hB
    by_cases hlt:k<ns
    ·have ht:ss[k]?=some (ss[k]'(by rw [←HNS.out];exact hlt)):=Kad _
     obtain ⟨d,hd⟩:∃ d,d=ss[k]'(by rw [←HNS.out];exact hlt):=⟨_,rfl⟩
     rw [←hd] at ht
     have hsm:=HSX.out d (Kam ht)
     have HX:=hid (show Zaj es ss [] (es.map fun _=>[]) 0=Zaj es (d::ss.drop (k+1)) names sh inp from by
      rw [HR.out]
      obtain ⟨hi,he⟩:=Kaf.1 ht
      rw [List.drop_eq_getElem_cons hi,he])
     obtain ⟨b,o,rfl,hbl,c0,c1,c2,⟨A',c',c3,c3r,c3n,c3c,c3d⟩,c4,c5⟩:=r1.at_ ht
     have i0:(0:Int)≤(k:Int):=by omega
     have i1:(k:Int)<(ns:Int):=by omega
     obtain ⟨dk,dp,dn,dsh,de,dq⟩:=d
     dsimp only at c0 c1 c2 c3 c3r c3n c3c c4 c5
     obtain ⟨sl,hsl⟩:∃ sl,sl=dsh.length:=⟨_,rfl⟩
     rw [←hsl] at c3 c3n c3c
     obtain ⟨w4,hw4⟩:∃ w4,w4=wr.alloc (.cells #[.int .i64 dk,.int .i64 dp,.string dn,.slice A' sl c',.int .i64 de,.int .i64 dq] 93):=⟨_,rfl⟩
     have b4:Below wr.heap.size wr w4:=by rw [hw4];exact (Kai _ _).alloc (Kag _) _
     have hE:w4.heap[wr.heap.size]?=some (.cells #[.int .i64 dk,.int .i64 dp,.string dn,.slice A' sl c',.int .i64 de,.int .i64 dq] 93 (0,0)):=by rw [hw4];exact Kac wr _
     have HW4:=hid hw4
     have HS4:=hid (HS.out.next b4)
     have HB4:=hid (bnext HB.out b4)
     have HRS:=hid (show RdX (ckX cb g sg) w4 A' (dsh.map VI) from by
      rcases c3r with h | ⟨b3,o3,e3,h3,h3c⟩
      ·exact .inl h
      ·have hs3:=HB.out.size
       exact .inr ⟨b3,o3,e3,Kae (Kae h3 hs3) b4.size,fun hx=>absurd (HS.out.ge _ hx) (by omega),fun j v hv=>(b4.cell (p:=⟨b3,_,none⟩) (Kae h3 hs3)).trans (h3c j v hv)⟩)
     obtain ⟨eb,heb⟩:∃ eb,eb=wr.heap.size:=⟨_,rfl⟩
     rw [←heb] at hE
     have HEB:=hid (And.intro heb hE)
     have hebx:¬ ckX cb g sg eb:=fun hx=>by have:=HS.out.lt _ hx;omega
     have heb4:eb<w4.heap.size:=(Kab.1 hE).1
     have hKE:∀ (w':World),KeepX (ckX cb g sg) w4 w'→w'.cell? ⟨eb,0,none⟩=some (.int .i64 dk)∧w'.cell? ⟨eb,1,none⟩=some (.int .i64 dp)∧w'.cell? ⟨eb,2,none⟩=some (.string dn)∧w'.cell? ⟨eb,3,none⟩=some (.slice A' sl c')∧w'.cell? ⟨eb,4,none⟩=some (.int .i64 de)∧w'.cell? ⟨eb,5,none⟩=some (.int .i64 dq):=fun w' h=>
      ⟨(h.2 ⟨eb,0,none⟩ heb4 hebx).trans (Kaa _ _ 0 _ _ _ hE),(h.2 ⟨eb,1,none⟩ heb4 hebx).trans (Kaa _ _ 1 _ _ _ hE),(h.2 ⟨eb,2,none⟩ heb4 hebx).trans (Kaa _ _ 2 _ _ _ hE),(h.2 ⟨eb,3,none⟩ heb4 hebx).trans (Kaa _ _ 3 _ _ _ hE),(h.2 ⟨eb,4,none⟩ heb4 hebx).trans (Kaa _ _ 4 _ _ _ hE),(h.2 ⟨eb,5,none⟩ heb4 hebx).trans (Kaa _ _ 5 _ _ _ hE)⟩
     have HKE:=hid hKE
     have HG4:=hid (HBB.out _ HB4.out).2.2
     have HSL:=hid hsl
     have HERR:=hid (show ∀ (c:Nat) (p:Int) (ve:Value) (w6:World),Zaj es ss [] (es.map fun _=>[]) 0=.inr (c,p)→IsErr w6 ve [(chkN,p)] c→Below w.heap.size w4 w6→ZgO w ne (ZaA ss es) (.returned (.tuple #[.slice none 0 0,ve])) w6 from fun c p ve w6 h he hb6=>by
      refine ⟨HB4.out.trans hb6,?_⟩
      rw [HCC.out,h]
      exact ⟨ve,rfl,he⟩)
     have hBw4:=hid HB4.out.size
     clear ht hd r3 rg b4 hE heb hsl hKE hw4 hebx heb4 hbl
     have hdk:dk=1∨dk=3∨dk=2∧0≤de∧de<(ne:Int):=by
      unfold smOk at hsm
      simp only [Bool.or_eq_true,Bool.and_eq_true,beq_iff_eq,decide_eq_true_eq] at hsm
      rcases hsm with (h | h) | h
      ·exact .inl h
      ·exact .inr (.inl h)
      ·exact .inr (.inr ⟨h.1.1,h.1.2,h.2⟩)
     clear hsm
     rcases hdk with rfl | rfl | ⟨rfl,hde0,hde1⟩
     ·have HL:=hid (ZeN (es:=es) (s:=⟨1,dp,dn,dsh,de,dq⟩) (ss.drop (k+1)) names sh inp rfl)
      dsimp only at HL
      go_upto_region 11 with (fail)
      rw [←HW4.out,←HEB.out.1]
      obtain ⟨f0,f1,f2,f3,f4,f5⟩:=HKE.out _ (KeepX.of (Kai _ w4))
      by_cases hp:dp=0∨dp=1
      ·have HEL:=hid (ZcE A' sl c' dsh w4 HSL.out c3n HRS.out.rd)
       obtain ⟨el,hel⟩:∃ el,el=Zad dsh:=⟨_,rfl⟩
       rw [←hel] at HEL
       by_cases h0:el=0
       ·subst h0
        have HZ:=hid (show Zaj es ss [] (es.map fun _=>[]) 0=.inr (141,dq) from by rw [HX.out,HL.out,if_pos (.inr hel.symm)])
        clear hel c0 c1 c2 c3 c4 c5
        rcases hp with rfl | rfl
        all_goals
         go_wp2_with (first
          | (go_at_call 73;refine HEL.out.mono ?_;rintro e w' ⟨rfl,rfl⟩)
          | (go_at_call 94;refine (Zb8 141 dq _ HG4.out).mono ?_;rintro e w6 ⟨ve,rfl,hve,hb6⟩))
         go_ret2
         exact HERR.out _ _ _ _ HZ.out hve (hb6.mono hBw4.out)
       ·have q0:(el==0)=false:=by rw [Kaj];exact h0
        have hl2:dsh.length≤2:=ZaX (by rw [←hel];exact h0)
        have hvl:ShV (ckX cb g sg) w4 (.slice A' sl c') dsh:=⟨A',c',by rw [HSL.out],by rw [←HSL.out];exact c3c,c3d,hl2,HRS.out⟩
        have hgv:=ZgQ w.heap.size cb g sg (some ⟨b,o,none⟩) EA ns sc ne ec names sh 1 dp de dq dn (.slice A' sl c') (.slice A' sl c') dsh w4 HG4.out HGW.out HS4.out hvl (by rw [←hel];exact h0)
        have HPA:=hid (show ¬ ((dp≠0∧dp≠1)∨Zad dsh=0) from by rw [←hel];omega)
        have HGV:=hid hgv
        clear hel h0 hl2 hvl hgv c0 c1 c2 c3 c4 c5
        cases htk:ZaC names dn with
        | true=>
         have HZ:=hid (show Zaj es ss [] (es.map fun _=>[]) 0=.inr (140,dq) from by rw [HX.out,HL.out,if_neg HPA.out,htk];rfl)
         have HG1:=hid (HGV.out.mono (fun e w' (h:Zdc _ _ _ _ _ _ _ _ _ _ _ _ _ _ _ _ e w')=>show Below w.heap.size w4 w'∧∃ ti xi,e=.returned (.iface ti xi)∧IsErr w' (.iface ti xi) [(chkN,dq)] 140 from by
          obtain ⟨g1,g2,g3⟩:=h
          rw [htk] at g3
          obtain ⟨v,rfl,hv⟩:=g3
          obtain ⟨ti,xi,rfl⟩:=hv.iface
          exact ⟨g2,ti,xi,rfl,hv⟩))
         clear htk
         rcases hp with rfl | rfl
         all_goals
          go_wp2_with (first
           | (go_at_call 73;refine HEL.out.mono ?_;rintro e w' ⟨rfl,rfl⟩)
           | (go_at_call 95;refine HG1.out.mono ?_;rintro e w6 ⟨hb6,ti,xi,rfl,hve⟩))
          go_ret2
          exact HERR.out _ _ _ _ HZ.out hve hb6
        | false=>
         have HG1:=hid (HGV.out.mono (fun e w' (h:Zdc _ _ _ _ _ _ _ _ _ _ _ _ _ _ _ _ e w')=>show KeepX (ckX cb g sg) w4 w'∧Below w.heap.size w4 w'∧e=.returned .nilIface∧CkSt w' w.heap.size cb g sg (some ⟨b,o,none⟩) EA ns sc ne ec (names++[(dn,dsh)]) sh from by
          obtain ⟨g1,g2,g3⟩:=h
          rw [htk] at g3
          exact ⟨g1,g2,g3.1,g3.2⟩))
         have HTK:=hid htk
         clear htk
         by_cases h8:8≤inp
         ·have q8:decide ((8:Int)<(inp:Int)+1)=true:=by simp;omega
          have HZ:=hid (show Zaj es ss [] (es.map fun _=>[]) 0=.inr (5,dq) from by rw [HX.out,HL.out,if_neg HPA.out,HTK.out,if_pos h8];rfl)
          clear h8
          rcases hp with rfl | rfl
          all_goals
           go_wp2_with (first
            | (go_at_call 73;refine HEL.out.mono ?_;rintro e w' ⟨rfl,rfl⟩)
            | (go_at_call 95;refine HG1.out.mono ?_;rintro e w6 ⟨hk6,hb6,rfl,hs6⟩;obtain ⟨m0,m1,m2,m3,m4,m5⟩:=HKE.out _ hk6;have HB6:=hid hb6;have HG6:=hid (HBB.out _ (HB4.out.trans hb6)).2.2;clear hk6 hb6 hs6)
            | (go_at_call 94;refine (Zb8 5 dq _ HG6.out).mono ?_;rintro e w7 ⟨ve,rfl,hve,hb7⟩;obtain ⟨ti,xi,rfl⟩:=hve.iface))
           go_ret2
           exact HERR.out _ _ _ _ HZ.out hve (HB6.out.trans (hb7.mono (Kah hBw4.out HB6.out.size)))
         ·have q8:decide ((8:Int)<(inp:Int)+1)=false:=by simp;omega
          have HZ:=hid (show Zaj es ss [] (es.map fun _=>[]) 0=Zaj es (ss.drop (k+1)) (names++[(dn,dsh)]) sh (inp+1) from by rw [HX.out,HL.out,if_neg HPA.out,HTK.out,if_neg h8];rfl)
          clear h8
          rcases hp with rfl | rfl
          all_goals
           go_wp2_with (first
            | (go_at_call 73;refine HEL.out.mono ?_;rintro e w' ⟨rfl,rfl⟩)
            | (go_at_call 95;refine HG1.out.mono ?_;rintro e w6 ⟨hk6,hb6,rfl,hs6⟩;have HB6:=hid (HB4.out.trans hb6);have HS6:=hid hs6;clear hk6 hb6 hs6))
           exact ⟨⟨k+1,inp+1,_,_,by omega,rfl,rfl,by omega,HZ.out,HS6.out,HB6.out⟩,by simp [intOf];omega⟩
      ·have p0:(dp==0)=false:=by rw [Kaj];omega
       have p1:(dp==1)=false:=by rw [Kaj];omega
       have p2:(dp != 0)=true:=by unfold bne;rw [p0];rfl
       have p3:(dp != 1)=true:=by unfold bne;rw [p1];rfl
       have HZ:=hid (show Zaj es ss [] (es.map fun _=>[]) 0=.inr (141,dq) from by rw [HX.out,HL.out,if_pos (.inl (by omega))])
       clear hp c0 c1 c2 c3 c4 c5
       go_wp2_with (go_at_call 94;refine (Zb8 141 dq _ HG4.out).mono ?_;rintro e w6 ⟨ve,rfl,hve,hb6⟩)
       go_ret2
       exact HERR.out _ _ _ _ HZ.out hve (hb6.mono hBw4.out)
     ·have HL:=hid (ZeP (es:=es) (s:=⟨3,dp,dn,dsh,de,dq⟩) (ss.drop (k+1)) names sh inp rfl)
      dsimp only at HL
      go_upto_region 22 with (fail)
      rw [←HW4.out,←HEB.out.1]
      obtain ⟨f0,f1,f2,f3,f4,f5⟩:=HKE.out _ (KeepX.of (Kai _ w4))
      have g2:=Kaa _ _ 2 _ _ _ HS4.out.hc
      obtain ⟨nv,hnm,hnr⟩:=HS4.out.hn
      have hlk:=fun q=>Zbn (w:=w4.drewN q) (show NamM (w4.drewN q) g nv from hnm) dn
      clear c0 c1 c2 c3 c4 c5
      rcases hnr.find dn with ⟨h1,h2⟩ | ⟨vl,l,h1,h2,h3,h4⟩
      ·have HZ:=hid (show Zaj es ss [] (es.map fun _=>[]) 0=.inr (140,dq) from by rw [HX.out,HL.out,h2];rfl)
       simp only [h1] at hlk
       clear h1 h2 hnm hnr
       go_quiet (fail)
       go_wp2_with (go_at_call 94;refine (Zb8 140 dq _ (HG4.out.drewN _)).mono ?_;rintro e w6 ⟨ve,rfl,hve,hb6⟩;obtain ⟨ti,xi,rfl⟩:=hve.iface)
       go_ret2
       exact HERR.out _ _ _ _ HZ.out hve (((Zaa (Kai _ _) _).trans hb6).mono hBw4.out)
      ·have HZ:=hid (show Zaj es ss [] (es.map fun _=>[]) 0=Zaj es (ss.drop (k+1)) names sh inp from by rw [HX.out,HL.out,h2];rfl)
       obtain ⟨Av,cv,rfl,-⟩:=h3
       simp only [h1] at hlk
       clear h1 h2 h4 hnm hnr
       go_quiet (fail)
       go_wp2
       exact ⟨⟨k+1,inp,_,_,by omega,rfl,rfl,by omega,HZ.out,HS4.out.drewN _,Zaa HB4.out _⟩,by simp [intOf];omega⟩
     ·obtain ⟨root,rfl⟩:∃ r:Nat,de=(r:Int):=⟨de.toNat,by omega⟩
      have hroot:root<ne:=by omega
      have HL:=hid (ZeO (es:=es) (s:=⟨2,dp,dn,dsh,(root:Int),dq⟩) (ss.drop (k+1)) names sh inp rfl)
      dsimp only at HL
      rw [Int.toNat_natCast] at HL
      have hxp:=Zky w.heap.size cb g sg (some ⟨b,o,none⟩) EA ns sc ne ec es names sh root w4 HNE.out hroot hl2 (HBB.out _ HB4.out).2.1 HEX.out HG4.out HGW.out HS4.out
      have HXP:=hid hxp
      clear hxp
      go_upto_region 18 with (fail)
      rw [←HW4.out,←HEB.out.1]
      obtain ⟨f0,f1,f2,f3,f4,f5⟩:=HKE.out _ (KeepX.of (Kai _ w4))
      clear c0 c1 c2 c3 c4 c5 hde0 hde1
      cases hx:Zay es (Zac es root) names (root+1) 0 sh with
      | inr cp=>
       obtain ⟨c,p⟩:=cp
       have HZ:=hid (show Zaj es ss [] (es.map fun _=>[]) 0=.inr (c,p) from by rw [HX.out,HL.out,hx])
       have HX1:=hid (HXP.out.mono (fun e w' (h:ZeQ _ _ _ _ _ _ _ _ _ _ _ _ _ e w')=>show Below w.heap.size w4 w'∧∃ ti xi,e=.returned (.iface ti xi)∧IsErr w' (.iface ti xi) [(chkN,p)] c from by
        obtain ⟨g1,g2,g3⟩:=h
        rw [hx] at g3
        obtain ⟨v,rfl,hv⟩:=g3
        obtain ⟨ti,xi,rfl⟩:=hv.iface
        exact ⟨g2,ti,xi,rfl,hv⟩))
       clear hx
       go_wp2_with (go_at_call 96;refine HX1.out.mono ?_;rintro e w6 ⟨hb6,ti,xi,rfl,hve⟩)
       go_ret2
       exact HERR.out _ _ _ _ HZ.out hve hb6
      | inl sh'=>
       have HX1:=hid (HXP.out.mono (fun e w' (h:ZeQ _ _ _ _ _ _ _ _ _ _ _ _ _ e w')=>show KeepX (ckX cb g sg) w4 w'∧Below w.heap.size w4 w'∧e=.returned .nilIface∧CkSt w' w.heap.size cb g sg (some ⟨b,o,none⟩) EA ns sc ne ec names sh' from by
        obtain ⟨g1,g2,g3⟩:=h
        rw [hx] at g3
        exact ⟨g1,g2,g3.1,g3.2⟩))
       obtain ⟨nv,-,hnr⟩:=HS4.out.hn
       obtain ⟨svs,-,-,hshl,-⟩:=HS4.out.hs
       have HEO:=hid (ZcJ hnr.ok (ZaI es root) (by rw [←HNE.out];exact hroot) (root+1) 0 sh sh' (by omega) (by omega) (by rw [hshl,HNE.out]) hx)
       have HX2:=hid (show Zaj es ss [] (es.map fun _=>[]) 0=if ZaC names dn then .inr (140,dq) else Zaj es (ss.drop (k+1)) (names++[(dn,sh'.getD root [])]) sh' inp from by rw [HX.out,HL.out,hx])
       clear hx hnr hshl
       go_upto_region 20 with (go_at_call 96;refine HX1.out.mono ?_;rintro e w5 ⟨hk5,hb5,rfl,hs5⟩)
       clear f0 f1 f2 f3 f4 f5
       obtain ⟨f0,f1,f2,f3,f4,f5⟩:=HKE.out _ hk5
       have g3:=Kaa _ _ 3 _ _ _ hs5.hc
       obtain ⟨Ai,ci,ni,si,-,svi⟩:=hs5.shape hroot
       have HB5:=hid (HB4.out.trans hb5)
       have HB45:=hid hb5
       have HK5:=hid hk5
       have j0:(0:Int)≤(root:Int):=by omega
       have j1:(root:Int)<(ne:Int):=by omega
       have hgv:=ZgQ w.heap.size cb g sg (some ⟨b,o,none⟩) EA ns sc ne ec names sh' 2 dp (root:Int) dq dn (.slice A' sl c') (.slice Ai ni ci) (sh'.getD root []) (w5.drewN 1) ((HBB.out _ HB5.out).2.2.drewN 1) HGW.out (hs5.drewN 1) (svi.keep (Zag _ _ _)) HEO.out
       have HGV:=hid hgv
       clear hgv svi hk5 hb5 hs5
       cases htk:ZaC names dn with
       | true=>
        have HZ:=hid (show Zaj es ss [] (es.map fun _=>[]) 0=.inr (140,dq) from by rw [HX2.out,htk];rfl)
        have HG1:=hid (HGV.out.mono (fun e w' (h:Zdc _ _ _ _ _ _ _ _ _ _ _ _ _ _ _ _ e w')=>show Below w.heap.size (w5.drewN 1) w'∧∃ ti xi,e=.returned (.iface ti xi)∧IsErr w' (.iface ti xi) [(chkN,dq)] 140 from by
         obtain ⟨g1,g2,g3⟩:=h
         rw [htk] at g3
         obtain ⟨v,rfl,hv⟩:=g3
         obtain ⟨ti,xi,rfl⟩:=hv.iface
         exact ⟨g2,ti,xi,rfl,hv⟩))
        clear htk
        go_wp2_with fail
        go_region_with (first
         | (go_at_call 95;refine HG1.out.mono ?_;rintro e w6 ⟨hb6,ti,xi,rfl,hve⟩))
        all_goals
         go_wp2
         go_ret2
         exact HERR.out _ _ _ _ HZ.out hve ((Zaa HB45.out 1).trans hb6)
       | false=>
        have HZ:=hid (show Zaj es ss [] (es.map fun _=>[]) 0=Zaj es (ss.drop (k+1)) (names++[(dn,sh'.getD root [])]) sh' inp from by rw [HX2.out,htk];rfl)
        have HG1:=hid (HGV.out.mono (fun e w' (h:Zdc _ _ _ _ _ _ _ _ _ _ _ _ _ _ _ _ e w')=>show Below w.heap.size (w5.drewN 1) w'∧e=.returned .nilIface∧CkSt w' w.heap.size cb g sg (some ⟨b,o,none⟩) EA ns sc ne ec (names++[(dn,sh'.getD root [])]) sh' from by
         obtain ⟨g1,g2,g3⟩:=h
         rw [htk] at g3
         exact ⟨g2,g3.1,g3.2⟩))
        clear htk
        go_wp2_with fail
        go_region_with (first
         | (go_at_call 95;refine HG1.out.mono ?_;rintro e w6 ⟨hb6,rfl,hs6⟩))
        all_goals
         have HB6:=hid ((Zaa HB5.out 1).trans hb6)
         have HS6:=hid hs6
         clear hb6 hs6
         go_wp2
         exact ⟨⟨k+1,inp,_,_,by omega,rfl,rfl,by omega,HZ.out,HS6.out,HB6.out⟩,by simp [intOf];omega⟩
    ·obtain rfl:k=ns:=by omega
     have HZ:=hid (show ZaA ss es=.inl sh from by
      rw [HCC.out,HR.out,HNS.out,List.drop_length]
      rfl)
     obtain ⟨w8,hw8⟩:∃ w8,w8=wr:=⟨_,rfl⟩
     rw [←hw8] at HS HB ⊢
     have hshl:sh.length=ne:=by obtain ⟨_,_,_,h,_⟩:=HS.out.hs;exact h
     have g3:=Kaa _ _ 3 _ _ _ HS.out.hc
     have HG3:=hid (fun W (hW:Below w8.heap.size w8 W)=>(hW.cell (p:=⟨cb,3,none⟩) (HS.out.lt _ (.inl rfl))).trans g3)
     obtain ⟨W6,hW6⟩:∃ W6,W6=w8.alloc (.cells (List.replicate ne (Value.slice none 0 0)).toArray 41):=⟨_,rfl⟩
     have hmk:(Instr.makeSlice 51 (.int .i64 (ne:Int)) (.int .i64 (ne:Int))).run Tryz.prog w8=.ok (.slice (some ⟨w8.heap.size,0,none⟩) ne ne) W6:=by
      rw [hW6];exact Zc1 ne (by omega) w8 (ne:Int) rfl
     have h6:W6.heap[w8.heap.size]?=some (.cells (List.replicate ne (Value.slice none 0 0)).toArray 41 (0,0)):=by rw [hW6];exact Kac w8 _
     have hb6:Below w8.heap.size w8 W6:=by rw [hW6];exact (Kai _ _).alloc (Kag _) _
     have hK6:OutK W6 w8.heap.size w.heap.size ne sh 0:=⟨_,h6,by simp,fun j v l hj=>by omega,fun i j u v hi hj=>by omega⟩
     have HK6:=hid hK6
     have HB6:=hid hb6
     have HSH:=hid hshl
     clear hW6 h6 hb6 hK6 hw8 hshl r1 r3 rg hlt
     go_wp2
     clear g3 hmk
     go_loopw [117] (fun iv wr=>∃ j:Nat,j≤ne∧iv=.int .i64 j∧Below w8.heap.size w8 wr∧w8.heap.size<wr.heap.size∧OutK wr w8.heap.size w.heap.size ne sh j) (fun iv _=>ne-(intOf iv).toNat)
     case atStart=>exact ⟨0,by omega,rfl,HB6.out,by obtain ⟨_,h,_⟩:=HK6.out;exact (Kab.1 h).1,HK6.out⟩
     case round=>
      clear HK6 HB6
      obtain ⟨j,hj,rfl,hb,hq,hK⟩:=hrel
      have g3:=HG3.out _ hb
      have HBJ:=hid hb
      have HKJ:=hid hK
      clear hb
      by_cases hlj:j<ne
      ·obtain ⟨Ai,ci,ni,si,hni,svi⟩:=HS.out.shape hlj
       have sj:=(HBJ.out.cell (p:=⟨sg,j,none⟩) (HS.out.lt _ (.inr (.inr rfl)))).trans si
       obtain ⟨A9,c9,e9,v1,v2,v3,v4⟩:=svi.next HBJ.out
       injection e9 with e9 e10 e11
       subst e9 e11
       have hcl:=ZdH Ai ni ci (sh.getD j []) wr hni (by omega) v4.rd
       have HCL:=hid hcl
       have hsj:sh[j]?=some (sh.getD j []):=by
        have:j<sh.length:=by rw [HSH.out];exact hlj
        rw [List.getD_eq_getElem?_getD,Kad this]
        rfl
       have HSJ:=hid hsj
       have HNI:=hid hni
       have HV3:=hid v3
       obtain ⟨svs,k1,k2,k3,k4⟩:=hK
       have HQ0:=hid k1
       have k0:(0:Int)≤(j:Int):=by omega
       have k1':(j:Int)<(ne:Int):=by omega
       have hsv:svs[j]?=some (svs[j]'(by omega)):=Kad _
       obtain ⟨sv,hsve⟩:∃ sv,sv=svs[j]'(by omega):=⟨_,rfl⟩
       rw [←hsve] at hsv
       have HSV:=hid hsv
       have HLQ:=hid hq
       clear hcl hsj hni v1 v2 v3 v4 k1 k2 k3 k4 hsv hsve si e10
       go_wp2_with (go_at_call 55;refine HCL.out.mono ?_;rintro e w9 ⟨A',c',rfl,ho,hb9⟩;have hq9:=(hb9.block _ HLQ.out).trans HQ0.out;have cq:w9.cell? ⟨w8.heap.size,j,none⟩=some sv:=(by rw [Kaa w9 _ j _ _ (0,0) hq9];simpa using HSV.out);have fq:w9.frozen? ⟨w8.heap.size,j,none⟩=false:=(by simp [World.frozen?,hq9]);have HK9:=hid (HKJ.out.step HLQ.out HB.out.size hb9 ho HSJ.out HV3.out hlj);have HB9:=hid (Zaf (k:=j) (bnext HBJ.out hb9) (Kag _) (.slice A' ni c'));have HZ9:=hid hb9.size;clear ho hb9 hq9)
       exact ⟨⟨j+1,by omega,rfl,HB9.out,by have:=HZ9.out;simp [World.setCell];omega,by rw [HNI.out];exact HK9.out⟩,by simp [intOf];omega⟩
      ·obtain rfl:ne=j:=by omega
       clear hj hlj g3
       go_wp2
       go_ret2
       refine ⟨HB.out.trans (HBJ.out.mono HB.out.size),?_⟩
       rw [HZ.out]
       exact ⟨_,rfl,HKJ.out.done HB.out.size HSH.out⟩
end Go.Proofs.YtghlnncfigkkaaaGreatDoor
