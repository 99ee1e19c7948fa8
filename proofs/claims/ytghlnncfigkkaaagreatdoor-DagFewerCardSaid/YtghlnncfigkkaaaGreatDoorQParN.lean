/-
 The walk of parse.Parse.
-/
import Derived.Test.YtghlnncfigkkaaaGreatDoorQParI
import Derived.Test.YtghlnncfigkkaaaGreatDoorQAppB
set_option maxRecDepth 100000
set_option maxHeartbeats 4000000
open Go.Lib (hid)
set_option linter.unusedVariables false
set_option linter.unusedSimpArgs false
namespace Go.Proofs.YtghlnncfigkkaaaGreatDoor
open Go.RowKit
attribute [local go_sem ↓] ZaO ZaP
def ZjC (W:World) (R:PS) (e:Ending) (w':World):Prop:=
 Below W.heap.size W w'∧((R.err=none∧∃ SA sc EA ec,e=.returned (.tuple #[.agg #[.slice SA R.ss.length sc,.slice EA R.es.length ec],.nilIface])∧OwnS w' W.heap.size SA sc R.ss∧OwnE w' W.heap.size EA ec R.es∧Sep noX w' W.heap.size SA sc R.ss EA ec R.es) ∨
  ∃ c p v,R.err=some (c,p)∧e=.returned (.tuple #[.agg #[.slice none 0 0,.slice none 0 0],v])∧IsErr w' v [(parN,(p:Int))] (c:Int))
def errN (s:PS):Nat:=if s.err=none then 1 else 0
def errI (P:Nat) (w:World):Nat:=match w.cell? ⟨P,5,none⟩ with | some .nilIface=>1 | _=>0
section
variable {X:Nat→Prop} {base P tc:Nat} {TA:Option Addr} {L:List Tok} {s:PS}
theorem PM.errI {w:World} (h:PM X base P TA tc L s w):errI P w=errN s:=by
 obtain ⟨ev,hc,h1,h2⟩:=h.errc
 unfold Go.Proofs.YtghlnncfigkkaaaGreatDoor.errI errN
 rw [hc]
 by_cases he:s.err=none
 ·rw [if_pos he,h1 he]
 ·obtain ⟨t,x,rfl⟩:=h2 he
  rw [if_neg he]
theorem ZjD {t:ByteArray} (h:(wantP L s t).err=none):(wantP L s t).i=s.i+1:=by
 unfold wantP at h ⊢
 split
 ·rfl
 ·rename_i hq
  rw [if_neg hq] at h
  unfold failP at h
  split at h
  ·cases h
  ·rename_i x hx;rw [hx] at h;cases h
theorem ZlN (f:Nat) (s:PS):s.i≤(stmtP L f s).i∧((stmtP L f s).err=none→s.i+1≤(stmtP L f s).i)∧(s.i≤L.length→(stmtP L f s).i≤L.length)∧(stmtP L f s).ss.length=s.ss.length+1:=by
 have g:=Zdz (L:=L) f s
 have g2:=G.want (L:=L) (bodyP L f s).1 tSemi
 have e:stmtP L f s=putS (wantP L (bodyP L f s).1 tSemi) (bodyP L f s).2:=rfl
 rw [e]
 refine ⟨Kah g.hi g2.hi,fun h => ?_,fun h=>g2.hl (g.hl h),?_⟩
 ·have h':(wantP L (bodyP L f s).1 tSemi).err=none:=h
  have:=ZjD h'
  have h1:=g.hi
  show s.i+1≤(wantP L (bodyP L f s).1 tSemi).i
  omega
 ·show ((wantP L (bodyP L f s).1 tSemi).ss++[_]).length=_
  rw [List.length_append,g2.hs,g.hs]
  rfl
theorem ZfR (f:Nat) (s:PS) (h:s.ss.length=64):(stmtP L f s).err≠none:=by
 intro he
 have e:stmtP L f s=putS (wantP L (bodyP L f s).1 tSemi) (bodyP L f s).2:=rfl
 rw [e] at he
 have h':(wantP L (bodyP L f s).1 tSemi).err=none:=he
 have e2:(bodyP L f s).1=failP L s 5:=by unfold bodyP;rw [if_pos h]
 rw [e2] at h'
 have hx:∃ x,(failP L s 5).err=some x:=by
  unfold failP
  split
  ·exact ⟨_,rfl⟩
  ·rename_i x hx;exact ⟨x,hx⟩
 obtain ⟨x,hx⟩:=hx
 have hi:isP L (failP L s 5) tSemi=false:=by unfold isP;rw [hx];rfl
 unfold wantP at h'
 rw [hi] at h'
 have h'':(failP L (failP L s 5) 130).err=none:=h'
 unfold failP at h''
 unfold failP at hx
 split at h''
 ·cases h''
 ·rename_i y hy
  rw [h''] at hy
  cases hy
theorem ZfS (n f:Nat) (s:PS) (h:s.err≠none∨(nowP L s).kind=0):Zak L n f s=s:=by
 cases n with
 | zero=>rfl
 | succ n=>
  unfold Zak
  rw [if_neg]
  intro hh
  simp only [Bool.and_eq_true,Option.isNone_iff_eq_none,bne_iff_ne] at hh
  rcases h with h | h
  ·exact h hh.1
  ·exact hh.2 h
end
theorem PM.isErr {X:Nat→Prop} {base P tc:Nat} {TA:Option Addr} {L:List Tok} {s:PS} {w:World} (h:PM X base P TA tc L s w) {c p:Nat} (he:s.err=some (c,p)) {ev:Value} (h5:w.cell? ⟨P,5,none⟩=some ev):IsErr w ev [(parN,(p:Int))] (c:Int):=by
 obtain ⟨_,_,_,_,ev',h⟩:=h
 have h1:=h.c5
 rw [h5] at h1
 injection h1 with h1
 subst h1
 have h2:=h.err
 rw [he] at h2
 exact h2
theorem ZbN {w4 wS:World} {g:Nat} {a b a0 b0:Value} {T:TypeId} (h0:w4.heap[g]?=some (.cells #[a0,b0] T (0,0)))
  (hS:wS=(w4.setCell ⟨g,0,none⟩ a).setCell ⟨g,1,none⟩ b):
  wS.heap[g]?=some (.cells #[a,b] T (0,0))∧(∀ k,k≠g→wS.heap[k]?=w4.heap[k]?)∧∀ (B:Nat) (w:World),Below B w w4→B≤g→Below B w wS:=by
 subst hS
 refine ⟨?_,fun k hk=>by rw [Zap _ _ _ (by simpa using hk),Zap _ _ _ (by simpa using hk)],fun B w h hB=>(h.setCell (p:=⟨g,0,none⟩) hB _).setCell (p:=⟨g,1,none⟩) hB _⟩
 rw [heap_setCell_same _ _ _ _ _ _ (heap_setCell_same _ _ _ _ _ _ h0)]
 rfl
theorem Zfh {w w':World} {base base' size n c:Nat} {T:TypeId} {A:Option Addr} {xs:List Value} (h:w.ownsRow base T size (.slice A n c) n xs) (hb:base'≤base) (hk:∀ k,base≤k→w'.heap[k]?=w.heap[k]?):w'.ownsRow base' T size (.slice A n c) n xs:=by
 refine ⟨h.1,?_⟩
 rcases h.2 with hv | ⟨g,cap',cur,hv,hb1,hg,r⟩
 ·exact .inl hv
 ·exact .inr ⟨g,cap',cur,hv,by omega,(hk g hb1).trans hg,r⟩
theorem ZfT {X:Nat→Prop} {w w':World} {b b':Nat} {v:Value} {l:List Nat} (h:ArgsV X b w v l) (hb:b'≤b) (hk:∀ k,b≤k→w'.heap[k]?=w.heap[k]?):ArgsV X b' w' v l:=by
 obtain ⟨A,c,h1,h2,h3⟩:=h
 exact ⟨A,c,h1,Zfh h2 hb hk,h3⟩
theorem OwnEX.more {X:Nat→Prop} {w w':World} {b b' c:Nat} {A:Option Addr} {es:List Ex} (h:OwnEX X w b A c es) (hb:b'≤b) (hk:∀ k,b≤k→w'.heap[k]?=w.heap[k]?):OwnEX X w' b' A c es:=by
 obtain ⟨ms,h1,h2,h3,h4⟩:=h
 exact ⟨ms,h1,Zfh h2 hb hk,fun m hm=>ZfT (h3 m hm) hb hk,h4⟩
theorem OwnSX.more {X:Nat→Prop} {w w':World} {b b' c:Nat} {A:Option Addr} {ss:List Sm} (h:OwnSX X w b A c ss) (hb:b'≤b) (hk:∀ k,b≤k→w'.heap[k]?=w.heap[k]?):OwnSX X w' b' A c ss:=by
 obtain ⟨ms,h1,h2,h3⟩:=h
 exact ⟨ms,h1,Zfh h2 hb hk,fun m hm=>ZfT (h3 m hm) hb hk⟩
def ZnC (base P:Nat) (TA:Option Addr) (tc:Nat) (L:List Tok) (F:Nat) (wb:World) (R:PS) (av:Value) (wr:World):Prop:=
 ∃ (n':Nat) (s':PS),av=PP P∧R=Zak L n' F s'∧PM noX base P TA tc L s' wr∧Below base wb wr∧2*(L.length-s'.i)+errN s'≤n'∧(s'.err=none→s'.ss.length≤64)
theorem ZhY (L:List Tok) (TA:Option Addr) (tc F:Nat) (w:World) (hL:L.length≤1000) (hT:RdT w w.heap.size TA L) (hg:ETyped w) (hF:12*L.length+20≤F):
  Calls Tryz.prog 43 #[.slice TA L.length tc] w (ZjC w (Zao F L)):=by
 obtain ⟨R,hR⟩:∃ R,R=Zak L F F Zd0:=⟨_,rfl⟩
 have hRR:Zao F L=R:=hR.symm
 rw [hRR]
 have HR:=hid hR
 obtain ⟨n,hn⟩:∃ n,n=L.length:=⟨_,rfl⟩
 have hetb:0<w.heap.size:=World.block_lt_of_cell? w _ hg
 obtain ⟨wa,hwa⟩:∃ wa,wa=w.alloc (.cells #[.slice none 0 0,.slice none 0 0] 26):=⟨_,rfl⟩
 obtain ⟨wb,hwb⟩:∃ wb,wb=wa.alloc (.cells #[.slice TA L.length tc,.int .i64 0,.slice none 0 0,.slice none 0 0,.int .i64 0,.nilIface] 160):=⟨_,rfl⟩
 have hba:Below w.heap.size w wa:=by rw [hwa];exact Zai w _
 have hsa:wa.heap.size=w.heap.size+1:=by rw [hwa];simp
 have hbb:Below wa.heap.size wa wb:=by rw [hwb];exact Zai wa _
 have hbw:Below w.heap.size w wb:=hba.trans (hbb.mono (by omega))
 have hPB:PM noX (w.heap.size+1) (w.heap.size+1) TA tc L Zd0 wb:=by
  refine ⟨none,0,none,0,.nilIface,Kag _,?_,OwnSX.nil _ _ _,OwnEX.nil _ _ _,rfl,(hT.below hbw).more (by omega),hg.next hbw,by omega,hL,Nat.zero_le _,Nat.zero_le _,Nat.zero_le _,Nat.zero_le _,fun k hk=>hk.elim,Sep.nil _ _ _⟩
  rw [hwb,←hsa]
  exact Kac wa _
 have hTree:wb.heap[w.heap.size]?=some (.cells #[.slice none 0 0,.slice none 0 0] 26 (0,0)):=by
  rw [hbb.block _ (by omega),hwa]
  exact Kac w _
 have HPB:=hid hPB
 have HTREE:=hid hTree
 have HBW:=hid hbw
 have HWB:=hid (show (w.alloc (.cells #[.slice none 0 0,.slice none 0 0] 26)).alloc (.cells #[.slice TA L.length tc,.int .i64 0,.slice none 0 0,.slice none 0 0,.int .i64 0,.nilIface] 160)=wb from by rw [hwb,hwa])
 clear hR hRR hT hg hwa hwb hba hsa hbb hbw hPB hTree hetb hn
 go_enter Tryz.func43,Tryz.ntmps43
 go_wp2
 rw [HWB.out]
 go_loopw [] (fun wr=>ZnC (w.heap.size+1) (w.heap.size+1) TA tc L F wb R (PP (w.heap.size+1)) wr) (fun wr=>2*(L.length-curI (w.heap.size+1) wr)+errI (w.heap.size+1) wr)
 case atStart=>exact ⟨F,Zd0,rfl,HR.out,HPB.out,Kai _ _,by show 2*(L.length-0)+1≤F;omega,fun _=>by show (0:Nat)≤64;omega⟩
 case round=>
  obtain ⟨n',s',_,hr,hp,hb,hn',h64⟩:=hrel
  have hcur:=hid hp.cur
  have heri:=hid hp.errI
  obtain ⟨he1,he2,he3,_⟩:=hp.el
  obtain ⟨kd,tx,nm,ps,hnow⟩:∃ kd tx nm ps,nowP L s'=⟨kd,tx,nm,ps⟩:=⟨_,_,_,_,rfl⟩
  obtain ⟨ev,c5,hev1,hev2⟩:=hp.errc
  have HNOW:=hid hnow
  have HP:=hid hp
  have HB:=hid hb
  have HRR:=hid hr
  have H64:=hid h64
  clear hp hb hr hnow h64
  cases herr:s'.err with
  | some x=>
   obtain ⟨te,xe,rfl⟩:=hev2 (by rw [herr];simp)
   have HX:=hid (show R=s' from by rw [HRR.out];exact ZfS _ _ _ (.inl (by rw [herr];simp)))
   have HERR:=hid herr
   have ht:=(HB.out.block w.heap.size (by omega)).trans HTREE.out
   have z0:=Kaa _ _ 0 _ _ _ ht
   have z1:=Kaa _ _ 1 _ _ _ ht
   have y0:=Zan ht 0
   have y1:=Zan ht 1
   have HT:=hid ht
   clear hev1 hev2 herr ht
   go_wp2_with fail
   go_region
   all_goals
    go_wp2
    obtain ⟨wS,hwS⟩:∃ wS,wS=(wr.setCell ⟨w.heap.size,0,none⟩ (.slice none 0 0)).setCell ⟨w.heap.size,1,none⟩ (.slice none 0 0):=⟨_,rfl⟩
    rw [←hwS]
    obtain ⟨c,p⟩:=x
    have hie:=HP.out.isErr HERR.out c5
    have hie2:IsErr wS.drew (.iface te xe) [(parN,(p:Int))] (c:Int):=by
     rw [hwS]
     exact IsErr.set (t:=⟨w.heap.size,1,none⟩) (heap_setCell_same _ _ _ _ _ _ HT.out) (by decide) (IsErr.set (t:=⟨w.heap.size,0,none⟩) HT.out (by decide) hie)
    obtain ⟨s1,s2,s3⟩:=ZbN HT.out hwS
    have hbel:=s3 w.heap.size w (HBW.out.trans (HB.out.mono (by omega))) (Kag _)
    have g0:=Kaa wS.drew _ 0 _ _ _ s1
    have g1:=Kaa wS.drew _ 1 _ _ _ s1
    clear s1 s2 s3 hwS
    exact bodyPost_ret (v:=.tuple #[.agg #[.slice none 0 0,.slice none 0 0],.iface te xe]) (by simp [results,Tryz.results43,go_sem,g0,g1]) rfl ⟨hbel.drew,.inr ⟨c,p,_,by rw [HX.out];exact HERR.out,rfl,hie2⟩⟩
  | none=>
   obtain rfl:=hev1 herr
   have HERR:=hid herr
   clear hev1 hev2 herr
   by_cases hk:kd=0
   ·have q:((kd:Int) != 0)=false:=by rw [bne_eq_false_iff_eq];omega
    have HX:=hid (show R=s' from by rw [HRR.out];exact ZfS _ _ _ (.inr (by rw [HNOW.out];exact hk)))
    clear hk
    go_wp2_with fail
    refine (Za7 wr HP.out HNOW.out).mono ?_
    rintro e w2 ⟨rfl,h2,k2,b2⟩
    have H2:=hid h2
    have HB2:=hid (HB.out.trans (b2.mono (by have:=HB.out.size;have:=HP.out.base_le;omega)))
    obtain ⟨ev2,c52,hev12,_⟩:=h2.errc
    obtain rfl:=hev12 HERR.out
    have ht:=(HB2.out.block w.heap.size (by omega)).trans HTREE.out
    have z0:=Kaa _ _ 0 _ _ _ ht
    have z1:=Kaa _ _ 1 _ _ _ ht
    have y0:=Zan ht 0
    have y1:=Zan ht 1
    have HT:=hid ht
    obtain ⟨SA,sc,EA,ec,ev3,hpr⟩:=h2
    have c2:=hpr.c2
    have c3:=hpr.c3
    have HPR:=hid hpr
    clear k2 b2 ht hpr hev12
    go_wp2
    obtain ⟨wS,hwS⟩:∃ wS,wS=(w2.setCell ⟨w.heap.size,0,none⟩ (.slice SA s'.ss.length sc)).setCell ⟨w.heap.size,1,none⟩ (.slice EA s'.es.length ec):=⟨_,rfl⟩
    rw [←hwS]
    obtain ⟨s1,s2,s3⟩:=ZbN HT.out hwS
    have hbel:=s3 w.heap.size w (HBW.out.trans (HB2.out.mono (by omega))) (Kag _)
    have g0:=Kaa wS _ 0 _ _ _ s1
    have g1:=Kaa wS _ 1 _ _ _ s1
    have hoS:OwnS wS w.heap.size SA sc s'.ss:=HPR.out.ownS.more (by omega) (fun k hk=>s2 k (by omega))
    have hoE:OwnE wS w.heap.size EA ec s'.es:=HPR.out.ownE.more (by omega) (fun k hk=>s2 k (by omega))
    have hsep:Sep noX wS w.heap.size SA sc s'.ss EA ec s'.es:=HPR.out.sep.map (fun _ _ a=>a.more (by omega) (fun k hk=>s2 k (by omega))) (fun _ _ a=>a.more (by omega) (fun k hk=>s2 k (by omega)))
    clear s1 s2 s3 hwS
    exact bodyPost_ret (v:=.tuple #[.agg #[.slice SA s'.ss.length sc,.slice EA s'.es.length ec],.nilIface]) (by simp [results,Tryz.results43,go_sem,g0,g1]) rfl ⟨hbel,.inl ⟨by rw [HX.out];exact HERR.out,SA,sc,EA,ec,by rw [HX.out],by rw [HX.out];exact hoS,by rw [HX.out];exact hoE,by rw [HX.out];exact hsep⟩⟩
   ·have q:((kd:Int) != 0)=true:=by rw [bne_iff_ne];omega
    obtain ⟨n',rfl⟩:∃ g,n'=g+1:=⟨n'-1,by
     have:errN s'=1:=by unfold errN;rw [if_pos HERR.out]
     omega⟩
    have HX:=hid (show R=Zak L n' F (stmtP L F s') from by
     rw [HRR.out]
     show Zak L (n'+1) F s'=_
     rw [Zak,if_pos]
     rw [HERR.out,HNOW.out]
     simp only [Option.isNone_none,Bool.true_and,bne_iff_ne]
     exact hk)
    clear hk
    go_wp2_with fail
    refine (Za7 wr HP.out HNOW.out).mono ?_
    rintro e w2 ⟨rfl,h2,k2,b2⟩
    have H2:=hid h2
    have HB2:=hid (HB.out.trans (b2.mono (by have:=HB.out.size;have:=HP.out.base_le;omega)))
    clear h2 k2 b2
    go_wp2_with fail
    refine (Zlx F w2 s' H2.out (H64.out HERR.out) hF).mono ?_
    rintro e w3 ⟨⟨v,rfl⟩,h3,b3⟩
    have H3:=hid h3
    have HB3:=hid (HB2.out.trans b3)
    clear h3 b3
    go_wp2
    obtain ⟨i1,i2,i3,i4⟩:=ZlN (L:=L) F s'
    have ee:errN s'=1:=by unfold errN;rw [if_pos HERR.out]
    have hlt:s'.i<L.length∨True:=.inr trivial
    have hdec:2*(L.length-(stmtP L F s').i)+errN (stmtP L F s')<2*(L.length-s'.i)+1:=by
     by_cases hx:(stmtP L F s').err=none
     ·have h1:=i2 hx
      have h2:=i3 he2
      have:errN (stmtP L F s')=1:=by unfold errN;rw [if_pos hx]
      omega
     ·have:errN (stmtP L F s')=0:=by unfold errN;rw [if_neg hx]
      omega
    refine ⟨⟨n',stmtP L F s',rfl,HX.out,H3.out,HB3.out,by omega,fun hx => ?_⟩,?_⟩
    ·have h1:=H64.out HERR.out
     by_cases h2:s'.ss.length=64
     ·exact absurd hx (ZfR F s' h2)
     ·omega
    ·have e1:=H3.out.cur
     have e2:=hcur.out
     have e3:=H3.out.errI
     have e4:=heri.out
     rw [e1,e2,e3,e4,ee]
     exact hdec
end Go.Proofs.YtghlnncfigkkaaaGreatDoor
