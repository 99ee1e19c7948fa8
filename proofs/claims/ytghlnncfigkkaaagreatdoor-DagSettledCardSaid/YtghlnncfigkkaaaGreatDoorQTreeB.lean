/-
 How big a parsed tree is.
-/
import Derived.Test.YtghlnncfigkkaaaGreatDoorQParI
import Derived.Test.YtghlnncfigkkaaaGreatDoorQAppN
import Derived.Test.YtghlnncfigkkaaaGreatDoorQNum
import Derived.Test.YtghlnncfigkkaaaGreatDoorQLexA
import Derived.Test.YtghlnncfigkkaaaGreatDoorQOpen
set_option maxRecDepth 100000
set_option maxHeartbeats 4000000
set_option linter.unusedVariables false
set_option linter.unusedSimpArgs false
namespace Go.Proofs.YtghlnncfigkkaaaGreatDoor
open Go.RowKit
attribute [local go_sem ↓] ZaO ZaP
def ZjC (W:World) (R:PS) (e:Ending) (w':World):Prop:=
 Below W.heap.size W w'∧((R.err=none∧∃ SA sc EA ec,e=.returned (.tuple #[.agg #[.slice SA R.ss.length sc,.slice EA R.es.length ec],.nilIface])∧OwnS w' W.heap.size SA sc R.ss∧OwnE w' W.heap.size EA ec R.es∧Sep noX w' W.heap.size SA sc R.ss EA ec R.es) ∨
  ∃ c p v,R.err=some (c,p)∧e=.returned (.tuple #[.agg #[.slice none 0 0,.slice none 0 0],v])∧IsErr w' v [(parN,(p:Int))] (c:Int))
def errN (s:PS):Nat:=if s.err=none then 1 else 0
def errI (P:Nat) (w:World):Nat:=match w.cell? ⟨P,5,none⟩ with | some .nilIface=>1 | _=>0
section
variable {X:Nat→Prop} {base P tc:Nat} {TA:Option Addr} {L:List Tok} {s:PS}
theorem PM.errI {w:World} (h:PM X base P TA tc L s w):errI P w=errN s:=by
 obtain ⟨e,b,c,d⟩:=h.errc;unfold Go.Proofs.YtghlnncfigkkaaaGreatDoor.errI errN;rw [b]
 by_cases a:s.err=none
 ·rw [if_pos a,c a]
 ·obtain ⟨t,x,rfl⟩:=d a;rw [if_neg a]
theorem ZjD {t:ByteArray} (h:(wantP L s t).err=none):(wantP L s t).i=s.i+1:=by
 unfold wantP at h ⊢;split
 ·rfl
 ·rename_i hq
  rw [if_neg hq] at h;unfold failP at h;split at h
  ·cases h
  ·rename_i x hx;rw [hx] at h;cases h
theorem ZlN (f:Nat) (s:PS):s.i≤(stmtP L f s).i∧((stmtP L f s).err=none→s.i+1≤(stmtP L f s).i)∧(s.i≤L.length→(stmtP L f s).i≤L.length)∧(stmtP L f s).ss.length=s.ss.length+1:=by
 have g:=Zdz (L:=L) f s;have a:=G.want (L:=L) (bodyP L f s).1 tSemi;have e:stmtP L f s=putS (wantP L (bodyP L f s).1 tSemi) (bodyP L f s).2:=rfl;rw [e];refine ⟨Kah g.hi a.hi,fun h => ?_,fun h=>a.hl (g.hl h),?_⟩
 ·have b:(wantP L (bodyP L f s).1 tSemi).err=none:=h;have:=ZjD b;have c:=g.hi
  show s.i+1≤(wantP L (bodyP L f s).1 tSemi).i
  omega
 ·show ((wantP L (bodyP L f s).1 tSemi).ss++[_]).length=_
  rw [List.length_append,a.hs,g.hs];rfl
theorem ZfR (f:Nat) (s:PS) (h:s.ss.length=64):(stmtP L f s).err≠none:=by
 intro d
 have e:stmtP L f s=putS (wantP L (bodyP L f s).1 tSemi) (bodyP L f s).2:=rfl;rw [e] at d;have b:(wantP L (bodyP L f s).1 tSemi).err=none:=d;have g:(bodyP L f s).1=failP L s 5:=by unfold bodyP;rw [if_pos h]
 rw [g] at b;have a:∃ x,(failP L s 5).err=some x:=by
  unfold failP;split
  ·exact ⟨_,rfl⟩
  ·rename_i x a;exact ⟨x,a⟩
 obtain ⟨x,a⟩:=a;have i:isP L (failP L s 5) tSemi=false:=by unfold isP;rw [a];rfl
 unfold wantP at b;rw [i] at b;have c:(failP L (failP L s 5) 130).err=none:=b;unfold failP at c;unfold failP at a;split at c
 ·cases c
 ·rename_i y hy
  rw [c] at hy
  cases hy
theorem ZfS (n f:Nat) (s:PS) (h:s.err≠none∨(nowP L s).kind=0):Zak L n f s=s:=by
 cases n with
 | zero=>rfl
 | succ n=>
  unfold Zak;rw [if_neg]
  intro a
  simp only [Bool.and_eq_true,Option.isNone_iff_eq_none,bne_iff_ne] at a;rcases h with h | h
  ·exact h a.1
  ·exact a.2 h
end
theorem PM.isErr {X:Nat→Prop} {base P tc:Nat} {TA:Option Addr} {L:List Tok} {s:PS} {w:World} (h:PM X base P TA tc L s w) {c p:Nat} (d:s.err=some (c,p)) {ev:Value} (e:w.cell? ⟨P,5,none⟩=some ev):IsErr w ev [(parN,(p:Int))] (c:Int):=by
 obtain ⟨_,_,_,_,f,h⟩:=h;have a:=h.c5;rw [e] at a;injection a with a
 subst a;have b:=h.err;rw [d] at b;exact b
theorem ZbN {w4 c:World} {g:Nat} {a b f i:Value} {T:TypeId} (j:w4.heap[g]?=some (.cells #[f,i] T (0,0)))
  (l:c=(w4.setCell ⟨g,0,none⟩ a).setCell ⟨g,1,none⟩ b):
  c.heap[g]?=some (.cells #[a,b] T (0,0))∧(∀ k,k≠g→c.heap[k]?=w4.heap[k]?)∧∀ (B:Nat) (w:World),Below B w w4→B≤g→Below B w c:=by
 subst l;refine ⟨?_,fun k d=>by rw [Zap _ _ _ (by simpa using d),Zap _ _ _ (by simpa using d)],fun B w h e=>(h.setCell (p:=⟨g,0,none⟩) e _).setCell (p:=⟨g,1,none⟩) e _⟩
 rw [heap_setCell_same _ _ _ _ _ _ (heap_setCell_same _ _ _ _ _ _ j)];rfl
theorem Zfh {w w':World} {base base' size n c:Nat} {T:TypeId} {A:Option Addr} {xs:List Value} (h:w.ownsRow base T size (.slice A n c) n xs) (i:base'≤base) (b:∀ k,base≤k→w'.heap[k]?=w.heap[k]?):w'.ownsRow base' T size (.slice A n c) n xs:=by
 refine ⟨h.1,?_⟩;rcases h.2 with a | ⟨g,d,cur,a,e,f,r⟩
 ·exact .inl a
 ·exact .inr ⟨g,d,cur,a,by omega,(b g e).trans f,r⟩
theorem ZfT {X:Nat→Prop} {w w':World} {b a:Nat} {v:Value} {l:List Nat} (h:ArgsV X b w v l) (d:a≤b) (e:∀ k,b≤k→w'.heap[k]?=w.heap[k]?):ArgsV X a w' v l:=by
 obtain ⟨A,c,f,g,i⟩:=h;exact ⟨A,c,f,Zfh g d e,i⟩
theorem OwnEX.more {X:Nat→Prop} {w w':World} {b a c:Nat} {A:Option Addr} {es:List Ex} (h:OwnEX X w b A c es) (d:a≤b) (e:∀ k,b≤k→w'.heap[k]?=w.heap[k]?):OwnEX X w' a A c es:=by
 obtain ⟨f,g,i,j,l⟩:=h;exact ⟨f,g,Zfh i d e,fun m n=>ZfT (j m n) d e,l⟩
theorem OwnSX.more {X:Nat→Prop} {w w':World} {b a c:Nat} {A:Option Addr} {ss:List Sm} (h:OwnSX X w b A c ss) (d:a≤b) (e:∀ k,b≤k→w'.heap[k]?=w.heap[k]?):OwnSX X w' a A c ss:=by
 obtain ⟨f,g,i,j⟩:=h;exact ⟨f,g,Zfh i d e,fun m l=>ZfT (j m l) d e⟩
def ZnC (base P:Nat) (TA:Option Addr) (tc:Nat) (L:List Tok) (F:Nat) (wb:World) (R:PS) (av:Value) (wr:World):Prop:=
 ∃ (n':Nat) (s':PS),av=PP P∧R=Zak L n' F s'∧PM noX base P TA tc L s' wr∧Below base wb wr∧2*(L.length-s'.i)+errN s'≤n'∧(s'.err=none→s'.ss.length≤64)
theorem ZhY (L:List Tok) (TA:Option Addr) (tc F:Nat) (w:World) (d6:L.length≤1000) (a6:RdT w w.heap.size TA L) (W:ETyped w) (d7:12*L.length+20≤F):
  Calls Tryz.prog 43 #[.slice TA L.length tc] w (ZjC w (Zao F L)):=by
 obtain ⟨R,Y⟩:=Ky (Zak L F F Zd0);have a7:Zao F L=R:=Y.symm;rw [a7];have d8:=Kz Y;obtain ⟨f9,d9⟩:=Ky L.length;have e0:0<w.heap.size:=World.block_lt_of_cell? w _ W;obtain ⟨m,z⟩:=Ky (w.alloc (.cells #[.slice none 0 0,.slice none 0 0] 26));obtain ⟨q,O⟩:=Ky (m.alloc (.cells #[.slice TA L.length tc,.int .i64 0,.slice none 0 0,.slice none 0 0,.int .i64 0,.nilIface] 160));have a8:Below w.heap.size w m:=by rw [z];exact Zai w _
 have a9:m.heap.size=w.heap.size+1:=by rw [z];simp
 have Z:Below m.heap.size m q:=by rw [O];exact Zai m _
 have Q:Below w.heap.size w q:=a8.trans (Z.mono (by omega))
 have b0:PM noX (w.heap.size+1) (w.heap.size+1) TA tc L Zd0 q:=by
  refine ⟨none,0,none,0,.nilIface,Kag _,?_,OwnSX.nil _ _ _,OwnEX.nil _ _ _,rfl,(a6.below Q).more (by omega),W.next Q,by omega,d6,Nat.zero_le _,Nat.zero_le _,Nat.zero_le _,Nat.zero_le _,fun k c=>c.elim,Sep.nil _ _ _⟩
  rw [O,←a9];exact Kac m _
 have b1:q.heap[w.heap.size]?=some (.cells #[.slice none 0 0,.slice none 0 0] 26 (0,0)):=by
  rw [Z.block _ (by omega),z]
  exact Kac w _
 have e5:=Kz b0;have b2:=Kz b1;have b4:=Kz Q;have e6:=Kz (show (w.alloc (.cells #[.slice none 0 0,.slice none 0 0] 26)).alloc (.cells #[.slice TA L.length tc,.int .i64 0,.slice none 0 0,.slice none 0 0,.int .i64 0,.nilIface] 160)=q from by rw [O,z])
 clear Y a7 a6 W z O a8 a9 Z Q b0 b1 e0 d9
 go_enter Tryz.func43,Tryz.ntmps43
 go_wp2
 rw [e6.o]
 go_loopw [] (fun wr=>ZnC (w.heap.size+1) (w.heap.size+1) TA tc L F q R (PP (w.heap.size+1)) wr) (fun wr=>2*(L.length-curI (w.heap.size+1) wr)+errI (w.heap.size+1) wr)
 case atStart=>exact ⟨F,Zd0,rfl,d8.o,e5.o,Kai _ _,by show 2*(L.length-0)+1≤F;omega,fun _=>by show (0:Nat)≤64;omega⟩
 case round=>
  obtain ⟨r,a,_,b5,v,b6,g2,b7⟩:=hrel;have e7:=Kz v.cur;have e8:=Kz v.errI;obtain ⟨g3,e9,g4,_⟩:=v.el;obtain ⟨kd,b8,b9,c6,c7⟩:∃ kd b8 b9 c6,nowP L a=⟨kd,b8,b9,c6⟩:=⟨_,_,_,_,rfl⟩;obtain ⟨g5,c5,a0,a1⟩:=v.errc;have S:=Kz c7;have B:=Kz v;have y:=Kz b6;have a2:=Kz b5;have c8:=Kz b7;clear v b6 b5 c7 b7
  cases herr:a.err with
  | some x=>
   obtain ⟨c9,d0,rfl⟩:=a1 (by rw [herr];simp)
   have e:=Kz (show R=a from by rw [a2.o];exact ZfS _ _ _ (.inl (by rw [herr];simp)))
   have d:=Kz herr;have b:=(y.o.block w.heap.size (by omega)).trans b2.o
   have z0:=Kaa 0 b;have z1:=Kaa 1 b;have y0:=Zan b 0;have y1:=Zan b 1;have C:=Kz b;clear a0 a1 herr b
   go_wp2_with fail
   go_region
   all_goals
    go_wp2
    obtain ⟨h,l⟩:=Ky ((wr.setCell ⟨w.heap.size,0,none⟩ (.slice none 0 0)).setCell ⟨w.heap.size,1,none⟩ (.slice none 0 0));rw [←l];obtain ⟨d1,d2⟩:=x;have f0:=B.o.isErr d.o c5;have f1:IsErr h.drew (.iface c9 d0) [(parN,(d2:Int))] (d1:Int):=by
     rw [l];exact IsErr.set (t:=⟨w.heap.size,1,none⟩) (heap_setCell_same _ _ _ _ _ _ C.o) (by decide) (IsErr.set (t:=⟨w.heap.size,0,none⟩) C.o (by decide) f0)
    obtain ⟨n,p,D⟩:=ZbN C.o l;have a3:=D w.heap.size w (b4.o.trans (y.o.mono (by omega))) (Kag _)
    have g0:=cell_of_row h.drew _ 0 _ _ _ n;have g1:=cell_of_row h.drew _ 1 _ _ _ n;clear n p D l;exact bodyPost_ret (v:=.tuple #[.agg #[.slice none 0 0,.slice none 0 0],.iface c9 d0]) (by simp [results,Tryz.results43,go_sem,g0,g1]) rfl ⟨a3.drew,.inr ⟨d1,d2,_,by rw [e.o];exact d.o,rfl,f1⟩⟩
  | none=>
   obtain rfl:=a0 herr;have d:=Kz herr;clear a0 a1 herr
   by_cases c:kd=0
   ·have f2:((kd:Int) != 0)=false:=by rw [bne_eq_false_iff_eq];omega
    have e:=Kz (show R=a from by rw [a2.o];exact ZfS _ _ _ (.inr (by rw [S.o];exact c)))
    clear c
    go_wp2_with fail
    refine (Za7 wr B.o S.o).mono ?_
    rintro d4 w2 ⟨rfl,j,k2,E⟩
    have H2:=Kz j;have T:=Kz (y.o.trans (E.mono (by have:=y.o.size;have:=B.o.base_le;omega)))
    obtain ⟨g6,g7,d5,_⟩:=j.errc;obtain rfl:=d5 d.o;have b:=(T.o.block w.heap.size (by omega)).trans b2.o
    have z0:=Kaa 0 b;have z1:=Kaa 1 b;have y0:=Zan b 0;have y1:=Zan b 1;have C:=Kz b;obtain ⟨H,I,J,M,g8,V⟩:=j;have c2:=V.c2;have c3:=V.c3;have a4:=Kz V;clear k2 E b V d5
    go_wp2
    obtain ⟨h,l⟩:=Ky ((w2.setCell ⟨w.heap.size,0,none⟩ (.slice H a.ss.length I)).setCell ⟨w.heap.size,1,none⟩ (.slice J a.es.length M));rw [←l];obtain ⟨n,p,D⟩:=ZbN C.o l;have a3:=D w.heap.size w (b4.o.trans (T.o.mono (by omega))) (Kag _)
    have g0:=cell_of_row h _ 0 _ _ _ n;have g1:=cell_of_row h _ 1 _ _ _ n;have f3:OwnS h w.heap.size H I a.ss:=a4.o.ownS.more (by omega) (fun k c=>p k (by omega))
    have f4:OwnE h w.heap.size J M a.es:=a4.o.ownE.more (by omega) (fun k c=>p k (by omega))
    have f5:Sep noX h w.heap.size H I a.ss J M a.es:=a4.o.sep.map (fun _ _ a5=>a5.more (by omega) (fun k c=>p k (by omega))) (fun _ _ a5=>a5.more (by omega) (fun k c=>p k (by omega)))
    clear n p D l;exact bodyPost_ret (v:=.tuple #[.agg #[.slice H a.ss.length I,.slice J a.es.length M],.nilIface]) (by simp [results,Tryz.results43,go_sem,g0,g1]) rfl ⟨a3,.inl ⟨by rw [e.o];exact d.o,H,I,J,M,by rw [e.o],by rw [e.o];exact f3,by rw [e.o];exact f4,by rw [e.o];exact f5⟩⟩
   ·have f2:((kd:Int) != 0)=true:=by rw [bne_iff_ne];omega
    obtain ⟨r,rfl⟩:∃ g,r=g+1:=⟨r-1,by
     have:errN a=1:=by unfold errN;rw [if_pos d.o]
     omega⟩
    have e:=Kz (show R=Zak L r F (stmtP L F a) from by
     rw [a2.o]
     show Zak L (r+1) F a=_
     rw [Zak,if_pos];rw [d.o,S.o];simp only [Option.isNone_none,Bool.true_and,bne_iff_ne];exact c)
    clear c
    go_wp2_with fail
    refine (Za7 wr B.o S.o).mono ?_
    rintro d4 w2 ⟨rfl,j,k2,E⟩
    have H2:=Kz j;have T:=Kz (y.o.trans (E.mono (by have:=y.o.size;have:=B.o.base_le;omega)))
    clear j k2 E
    go_wp2_with fail
    refine (Zlx F w2 a H2.o (c8.o d.o) d7).mono ?_
    rintro d4 w3 ⟨⟨d3,rfl⟩,h3,b3⟩
    have H3:=Kz h3;have f6:=Kz (T.o.trans b3);clear h3 b3
    go_wp2
    obtain ⟨i1,i2,i3,i4⟩:=ZlN (L:=L) F a;have f7:errN a=1:=by unfold errN;rw [if_pos d.o]
    have g9:a.i<L.length∨True:=.inr trivial;have f8:2*(L.length-(stmtP L F a).i)+errN (stmtP L F a)<2*(L.length-a.i)+1:=by
     by_cases N:(stmtP L F a).err=none
     ·have h1:=i2 N;have j:=i3 e9;have:errN (stmtP L F a)=1:=by unfold errN;rw [if_pos N]
      omega
     ·have:errN (stmtP L F a)=0:=by unfold errN;rw [if_neg N]
      omega
    refine ⟨⟨r,stmtP L F a,rfl,e.o,H3.o,f6.o,by omega,fun N => ?_⟩,?_⟩
    ·have h1:=c8.o d.o
     by_cases j:a.ss.length=64
     ·exact absurd N (ZfR F a j)
     ·omega
    ·have e1:=H3.o.cur;have e2:=e7.o;have e3:=H3.o.errI;have e4:=e8.o;rw [e1,e2,e3,e4,f7];exact f8
end Go.Proofs.YtghlnncfigkkaaaGreatDoor
set_option maxRecDepth 100000
set_option maxHeartbeats 4000000
namespace Go.Proofs.YtghlnncfigkkaaaGreatDoor
open Go.RowKit
theorem ZhR (s:ByteArray):∀ (f k:Nat) (l r:List Tok),l.length≤512→ZaN f s k l=.toks r→r.length≤513:=by
 intro f
 induction f with
 | zero=>intro k l r h e;unfold ZaN at e;injection e with e;subst e;omega
 | succ f ih=>
  intro k l r h e
  unfold ZaN at e;split at e
  ·split at e
   ·cases e
   ·split at e
    ·cases e
    ·rename_i hne
     exact ih _ _ _ (by rw [List.length_append];simp;omega) e
  ·injection e with e
   subst e;rw [List.length_append];simp;omega
theorem ZdU {s:ByteArray} {r:List Tok} (h:scanM s=.toks r):r.length≤513∧s.size≤4096:=by
 unfold scanM at h;split at h
 ·cases h
 ·exact ⟨ZhR _ _ _ _ _ (by simp) h,by omega⟩
def ZmD (W:World) (F:Nat) (S:ScanR) (e:Ending) (w':World):Prop:=
 Below W.heap.size W w'∧((∃ l,S=.toks l∧(Zao F l).err=none∧∃ SA sc EA ec,e=.returned (.tuple #[.agg #[.slice SA (Zao F l).ss.length sc,.slice EA (Zao F l).es.length ec],.nilIface])∧OwnS w' W.heap.size SA sc (Zao F l).ss∧OwnE w' W.heap.size EA ec (Zao F l).es) ∨
  (∃ l c p v,S=.toks l∧(Zao F l).err=some (c,p)∧e=.returned (.tuple #[.agg #[.slice none 0 0,.slice none 0 0],v])∧IsErr w' v [(parN,(p:Int))] (c:Int)) ∨
  ∃ c p v,S=.err c p∧e=.returned (.tuple #[.agg #[.slice none 0 0,.slice none 0 0],v])∧IsErr w' v [(lexN,(p:Int))] (c:Int))
def Zli (W:World) (F:Nat) (S:ScanR) (e:Ending) (w':World):Prop:=
 Below W.heap.size W w'∧((∃ l,S=.toks l∧(Zao F l).err=none∧∃ SA sc EA ec,e=.returned (.tuple #[.agg #[.slice SA (Zao F l).ss.length sc,.slice EA (Zao F l).es.length ec],.nilIface])∧OwnS w' W.heap.size SA sc (Zao F l).ss∧OwnE w' W.heap.size EA ec (Zao F l).es∧Sep noX w' W.heap.size SA sc (Zao F l).ss EA ec (Zao F l).es) ∨
  (∃ l c p v,S=.toks l∧(Zao F l).err=some (c,p)∧e=.returned (.tuple #[.agg #[.slice none 0 0,.slice none 0 0],v])∧IsErr w' v [(parN,(p:Int))] (c:Int)) ∨
  ∃ c p v,S=.err c p∧e=.returned (.tuple #[.agg #[.slice none 0 0,.slice none 0 0],v])∧IsErr w' v [(lexN,(p:Int))] (c:Int))
theorem Zjo (s:ByteArray) (F:Nat) (w:World) (b2:s.size≤100000) (Z:ETyped w) (a0:ErrT w) (a1:∀ l,scanM s=.toks l→12*l.length+20≤F):
  Calls Tryz.prog 16 #[.string s] w (Zli w F (scanM s)):=by
 obtain ⟨a2,q⟩:=Ky (w.alloc (.cells #[.slice none 0 0,.slice none 0 0] 26));have M:=Kv q;have d8:a2.heap.size=w.heap.size+1:=by rw [q];simp
 have a3:=Kw q;have b3:=Kz q;have b4:=Kz M;have a4:=Kz (Z.next M);have b5:=Kz (a0.next M);have b6:=Kz a3;have b7:=Kz a1;clear q M a3 Z a0 a1
 go_enter Tryz.func16,Tryz.ntmps16
 go_wp2_with fail
 rw [←b3.o];refine (ZlB s a2 b2 a4.o b5.o).mono ?_
 rintro b8 w2 ⟨r,b9⟩
 have c6:=Kz (a4.o.next r);have a5:=Kz (b4.o.trans (r.mono (by omega)))
 have h:=(r.block w.heap.size (by omega)).trans b6.o
 have d9:w.heap.size+1≤w2.heap.size:=by have:=r.size;omega
 clear r;rcases b9 with ⟨l,c7,c8,j,rfl,o2⟩ | ⟨c,p,v,j,rfl,m⟩
 ·have e0:=(ZdU j).1;have N:=Kz j;have c9:=Kz (ZhY l c7 c8 F w2 (by omega) o2.rd c6.o (b7.o l j))
  have x:=Kz h;clear j o2 h
  go_wp2_with fail
  refine c9.o.mono ?_
  rintro b8 w3 ⟨Q,h3⟩
  have a6:=Kz (a5.o.trans (Q.mono (by omega)))
  have n:=(Q.block w.heap.size (by omega)).trans x.o
  have z0:=cell_of_row w3 _ 0 _ _ _ n;have z1:=cell_of_row w3 _ 1 _ _ _ n;have y0:=Zan n 0;have y1:=Zan n 1;have O:=Kz n;clear Q n;rcases h3 with ⟨y,z,A,B,C,rfl,a7,a8,a9⟩ | ⟨c,p,v,y,rfl,m⟩
  ·have R:=Kz y;have d0:=Kz a7;have d1:=Kz a8;have d2:=Kz a9;clear y a7 a8 a9;obtain ⟨b0,S⟩:=Ky ((Zao F l).ss.length);obtain ⟨b1,T⟩:=Ky ((Zao F l).es.length);rw [←S,←T];have d3:=Kz S;have d4:=Kz T;clear S T
   go_wp2
   obtain ⟨b,d⟩:=Ky ((w3.setCell ⟨w.heap.size,0,none⟩ (.slice z b0 A)).setCell ⟨w.heap.size,1,none⟩ (.slice B b1 C));rw [←d];obtain ⟨e,g,i⟩:=ZbN O.o d;have D:=i w.heap.size w a6.o (Kag _);have E:=cell_of_row b _ 0 _ _ _ e;have H:=cell_of_row b _ 1 _ _ _ e;have d5:OwnS b w.heap.size z A (Zao F l).ss:=d0.o.more (by omega) (fun k V=>g k (by omega))
   have d6:OwnE b w.heap.size B C (Zao F l).es:=d1.o.more (by omega) (fun k V=>g k (by omega))
   have d7:Sep noX b w.heap.size z A (Zao F l).ss B C (Zao F l).es:=d2.o.map (fun _ _ a=>a.more (by omega) (fun k V=>g k (by omega))) (fun _ _ a=>a.more (by omega) (fun k V=>g k (by omega)))
   clear e g i d;exact bodyPost_ret (v:=.tuple #[.agg #[.slice z b0 A,.slice B b1 C],.nilIface]) (by simp [results,Tryz.results16,go_sem,E,H]) rfl ⟨D,.inl ⟨l,N.o,R.o,z,A,B,C,by rw [←d3.o,←d4.o],d5,d6,d7⟩⟩
  ·obtain ⟨I,J,rfl⟩:=m.iface;have R:=Kz y;have W:=Kz m;clear y m
   go_wp2
   obtain ⟨b,d⟩:=Ky ((w3.setCell ⟨w.heap.size,0,none⟩ (.slice none 0 0)).setCell ⟨w.heap.size,1,none⟩ (.slice none 0 0));rw [←d];have Y:IsErr b (.iface I J) [(parN,(p:Int))] (c:Int):=by
    rw [d];exact IsErr.set (t:=⟨w.heap.size,1,none⟩) (heap_setCell_same _ _ _ _ _ _ O.o) (by decide) (IsErr.set (t:=⟨w.heap.size,0,none⟩) O.o (by decide) W.o)
   obtain ⟨e,g,i⟩:=ZbN O.o d;have D:=i w.heap.size w a6.o (Kag _);have E:=cell_of_row b _ 0 _ _ _ e;have H:=cell_of_row b _ 1 _ _ _ e;clear e g i d;exact bodyPost_ret (v:=.tuple #[.agg #[.slice none 0 0,.slice none 0 0],.iface I J]) (by simp [results,Tryz.results16,go_sem,E,H]) rfl ⟨D,.inr (.inl ⟨l,c,p,_,N.o,R.o,rfl,Y⟩)⟩
 ·obtain ⟨I,J,rfl⟩:=m.iface;have N:=Kz j;have W:=Kz m;have z0:=cell_of_row w2 _ 0 _ _ _ h;have z1:=cell_of_row w2 _ 1 _ _ _ h;have y0:=Zan h 0;have y1:=Zan h 1;have x:=Kz h;clear j m h
  go_wp2
  obtain ⟨b,d⟩:=Ky ((w2.setCell ⟨w.heap.size,0,none⟩ (.slice none 0 0)).setCell ⟨w.heap.size,1,none⟩ (.slice none 0 0));rw [←d];have Y:IsErr b (.iface I J) [(lexN,(p:Int))] (c:Int):=by
   rw [d];exact IsErr.set (t:=⟨w.heap.size,1,none⟩) (heap_setCell_same _ _ _ _ _ _ x.o) (by decide) (IsErr.set (t:=⟨w.heap.size,0,none⟩) x.o (by decide) W.o)
  obtain ⟨e,g,i⟩:=ZbN x.o d;have D:=i w.heap.size w a5.o (Kag _);have E:=cell_of_row b _ 0 _ _ _ e;have H:=cell_of_row b _ 1 _ _ _ e;clear e g i d;exact bodyPost_ret (v:=.tuple #[.agg #[.slice none 0 0,.slice none 0 0],.iface I J]) (by simp [results,Tryz.results16,go_sem,E,H]) rfl ⟨D,.inr (.inr ⟨c,p,_,N.o,rfl,Y⟩)⟩
theorem Zhh (s:ByteArray) (F:Nat) (w:World) (c:s.size≤100000) (d:ETyped w) (h:ErrT w) (i:∀ l,scanM s=.toks l→12*l.length+20≤F):
  Calls Tryz.prog 16 #[.string s] w (ZmD w F (scanM s)):=
 (Zjo s F w c d h i).mono fun e t ⟨j,k⟩=>⟨j,k.imp_left fun ⟨l,a,b,m,n,p,q,r,f,g,_⟩=>⟨l,a,b,m,n,p,q,r,f,g⟩⟩
theorem ZjR (L:List Tok) (n f:Nat) (s:PS) (h:s.err≠none):Zak L n f s=s:=by
 cases n with
 | zero=>rfl
 | succ n=>
  rw [Zak];have:s.err.isNone=false:=by cases he:s.err with | none=>exact absurd he h | some _=>rfl
  rw [this];rfl
theorem Zna (L:List Tok) (f:Nat):∀ (n:Nat) (s:PS),s.ss.length≤64→(Zak L n f s).err=none→(Zak L n f s).ss.length≤64:=by
 intro n
 induction n with
 | zero=>intro s h _;exact h
 | succ n ih=>
  intro s h a
  rw [Zak] at a ⊢;split
  ·rename_i hc
   rw [if_pos hc] at a;have b:(stmtP L f s).err=none:=Classical.byContradiction fun b=>by
    rw [ZjR L n f _ b] at a;exact b a
   have c:s.ss.length≠64:=fun c=>ZfR f s c b
   have d:=(ZlN (L:=L) f s).2.2.2;exact ih _ (by omega) a
  ·exact h
theorem Zih {F:Nat} {L:List Tok} (h:(Zao F L).err=none):(Zao F L).ss.length≤64:=Zna L F F Zd0 (Nat.zero_le _) h
theorem Znb (L:List Tok) (f:Nat) (s:PS) (h:s.es.length≤s.i) (b:s.i≤L.length):(stmtP L f s).es.length≤(stmtP L f s).i∧(stmtP L f s).i≤L.length:=by
 have g:=Zdz (L:=L) f s;have a:=G.want (L:=L) (bodyP L f s).1 tSemi;have e:stmtP L f s=putS (wantP L (bodyP L f s).1 tSemi) (bodyP L f s).2:=rfl;rw [e];refine ⟨?_,a.hl (g.hl b)⟩
 show (wantP L (bodyP L f s).1 tSemi).es.length≤(wantP L (bodyP L f s).1 tSemi).i
 have c:=g.he;have d:=a.he;omega
theorem Znc (L:List Tok) (f:Nat):∀ (n:Nat) (s:PS),s.es.length≤s.i→s.i≤L.length→(Zak L n f s).es.length≤L.length:=by
 intro n
 induction n with
 | zero=>intro s h a;exact Kah h a
 | succ n ih=>
  intro s h a
  rw [Zak];split
  ·have:=Znb L f s h a;exact ih _ this.1 this.2
  ·exact Kah h a
theorem ZlE (F:Nat) (L:List Tok):(Zao F L).es.length≤L.length:=Znc L F F Zd0 (Nat.zero_le _) (Nat.zero_le _)
end Go.Proofs.YtghlnncfigkkaaaGreatDoor
