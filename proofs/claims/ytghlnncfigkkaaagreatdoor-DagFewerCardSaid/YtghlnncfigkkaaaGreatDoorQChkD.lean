/-
 Walks of wide and mat.
-/
import Derived.Test.YtghlnncfigkkaaaGreatDoorQNum
import Derived.Test.YtghlnncfigkkaaaGreatDoorQChkB
import Derived.BigQuiet
import Derived.Deep.RegionWith
set_option maxRecDepth 100000
set_option maxHeartbeats 2000000
open Go.Lib (hid)
namespace Go.Proofs.YtghlnncfigkkaaaGreatDoor
set_option linter.unusedVariables false
set_option linter.unusedSimpArgs false
open Go.RowKit
theorem Zag (X:Nat→Prop) (w:World) (q:Nat):KeepX X w (w.drewN q):=⟨Kag _,fun _ _ _=>rfl⟩
theorem RdX.of_own {X:Nat→Prop} {w:World} {base:Nat} {e:TypeId} {A:Option Addr} {cap:Nat} {xs:List Value} (h:Own w base e A cap xs) (hX:∀ k,X k→k<base):RdX X w A xs:=by
 rcases h.form with ⟨rfl,rfl⟩ | ⟨g,cur,rfl,hb,hg,h1,h2,h3,h4⟩
 ·exact .inl rfl
 ·refine .inr ⟨g,0,rfl,(Kab.1 hg).1,fun hx=>absurd (hX g hx) (by omega),fun j v hv => ?_⟩
  rw [Nat.zero_add,Kaa w g j cur _ (0,0) hg]
  rw [←h4,List.getElem?_take] at hv
  split at hv
  ·simpa using hv
  ·cases hv
theorem ShV.of_own {X:Nat→Prop} {w:World} {base:Nat} {A:Option Addr} {cap n:Nat} {l:List Int} (h:Own w base 3 A cap (l.map VI)) (hX:∀ k,X k→k<base) (hn:n=l.length) (h2:l.length≤2):ShV X w (.slice A n cap) l:=by
 have hc:=Zfl h
 rw [Kak] at hc
 exact ⟨A,cap,by rw [hn],hc.2.1,hc.2.2,h2,RdX.of_own h hX⟩
def wideV (x:List Int) (vx vy:Value):Value:=if x.length=0 then vy else vx
theorem ZcC {X:Nat→Prop} {w:World} {vx vy:Value} {x y:List Int} (hx:ShV X w vx x) (hy:ShV X w vy y):ShV X w (wideV x vx vy) (wideP x y).1:=by
 unfold wideV wideP
 split
 ·exact hy
 ·exact hx
theorem ZcD (X:Nat→Prop) (vx vy:Value) (x y:List Int) (w:World) (hx:ShV X w vx x) (hy:ShV X w vy y):
  Calls Tryz.prog 180 #[vx,vy] w fun e w'=>e=.returned (.tuple #[wideV x vx vy,.bool (wideP x y).2])∧∃ q,w'=w.drewN q:=by
 have HX:=hid hx
 have HY:=hid hy
 obtain ⟨A,c,rfl,x1,x2,x3,x4⟩:=hx
 obtain ⟨A',c',rfl,y1,y2,y3,y4⟩:=hy
 have HE:=hid (fun W (hW:W=w)=>ZcA A A' x.length y.length c c' x y W rfl rfl (by omega) (by omega) (by rw [hW];exact x4.rd) (by rw [hW];exact y4.rd))
 obtain ⟨n,hn⟩:∃ n,n=x.length:=⟨_,rfl⟩
 obtain ⟨m,hm⟩:∃ m,m=y.length:=⟨_,rfl⟩
 rw [←hn] at HX HE ⊢
 rw [←hm] at HY HE ⊢
 by_cases h0:n=0
 ·have hw:wideP x y=(y,true):=by unfold wideP;rw [if_pos (by omega)]
  have hv:wideV x (.slice A n c) (.slice A' m c')=.slice A' m c':=by unfold wideV;rw [if_pos (by omega)]
  rw [hw,hv]
  subst h0
  clear hv hn hm x1 x2 x3 x4 y1 y2 y3 y4 hw
  go_enter Tryz.func180,Tryz.ntmps180
  go_wp2
  go_ret2
  exact ⟨rfl,0,rfl⟩
 ·have q0:((n:Int)==0)=false:=by rw [Kaj];omega
  have hw:wideP x y=(x,y.length==0||x==y):=by unfold wideP;rw [if_neg (by omega)]
  have hv:wideV x (.slice A n c) (.slice A' m c')=.slice A n c:=by unfold wideV;rw [if_neg (by omega)]
  rw [hw,hv,←hm]
  clear hv
  have HNX:=hid hn
  by_cases h1:m=0
  ·subst h1
   clear hn hm x1 x2 x3 x4 y1 y2 y3 y4 hw h0
   go_enter Tryz.func180,Tryz.ntmps180
   go_wp2
   go_ret2
   exact ⟨rfl,0,rfl⟩
  ·have q1:((m:Int)==0)=false:=by rw [Kaj];omega
   have q2:((m==0):Bool)=false:=by rw [Kaj];omega
   rw [q2]
   clear hn hm x1 x2 x3 x4 y1 y2 y3 y4 hw h0 h1 q2
   go_enter Tryz.func180,Tryz.ntmps180
   go_wp2_with (go_at_call 79;refine (HE.out _ rfl).mono ?_;rintro e w' ⟨rfl,q,rfl⟩)
   go_ret2
   exact ⟨rfl,q,rfl⟩
theorem Za8 (W:World):(Go.sizeOf 3).run Tryz.prog W=.ok 1 W:=by kernel_rfl
theorem Zds {X:Nat→Prop} {w:World} {A:Option Addr} {l:List Int} (h:RdX X w A (l.map VI)) (hl:0<l.length):∃ b o,A=some ⟨b,o,none⟩∧b<w.heap.size∧∀ (j:Nat) (d:Int),l[j]?=some d→w.cell? ⟨b,o+j,none⟩=some (.int .i64 d):=by
 rcases h with h | ⟨b,o,hA,hb,_,hc⟩
 ·have:=congrArg List.length h
  rw [Kak] at this
  simp at this
  subst this
  simp at hl
 ·exact ⟨b,o,hA,hb,fun j d hd=>hc j _ (by rw [Kal,hd];rfl)⟩
theorem Znj (X:Nat→Prop) (A A':Option Addr) (c c':Nat) (p q:Int) (w:World) (hX:∀ k,X k→k<w.heap.size) (h1:1≤c) (h1':c≤9223372036854775807) (h2:1≤c') (h2':c'≤9223372036854775807) (hx:RdX X w A ([p].map VI)) (hy:RdX X w A' ([q].map VI)):
  Calls Tryz.prog 181 #[.slice A 1 c,.slice A' 1 c'] w fun e w'=>∃ v,e=.returned (.tuple #[v,.bool (matP [p] [q]).2])∧ShV X w' v (matP [p] [q]).1∧Below w.heap.size w w':=by
 have HRX:=hid hx.rd
 have HRY:=hid hy.rd
 have HXX:=hid hX
 obtain ⟨b,o,rfl,hb,hcx⟩:=Zds hx (by simp)
 obtain ⟨b',o',rfl,hb',hcy⟩:=Zds hy (by simp)
 have e0:w.cell? ⟨b,o,none⟩=_:=hcx 0 p rfl
 have e1:w.cell? ⟨b',o',none⟩=_:=hcy 0 q rfl
 by_cases hpq:p=q
 ·have t1:(p==q)=true:=by rw [beq_iff_eq];exact hpq
  have t2:(p != q)=false:=by unfold bne;rw [t1];rfl
  have HM:=hid (show matP [p] [q]=([],true) from by unfold matP;rw [if_neg (by simp;exact hpq)];rfl)
  have f1:∀ W,(Instr.sliceAt 41 (.slice (some ⟨b,o,none⟩) 1 c) none (some (.int .i64 0)) none).run Tryz.prog W=.ok (.slice (cutA (some ⟨b,o,none⟩) 0 1 c) 0 c) W:=fun W=>ZaB (P := Tryz.prog) Tryz.underlying41 Za8 (some ⟨b,o,none⟩) (n:=1) (c:=c) (h:=0) (by omega) W
  have f2:∀ W,(Instr.sliceAt 41 (.slice (some ⟨b',o',none⟩) 1 c') (some (.int .i64 1)) none none).run Tryz.prog W=.ok (.slice (cutA (some ⟨b',o',none⟩) 1 1 c') 0 (c'-1)) W:=fun W=>Za2 (P := Tryz.prog) Tryz.underlying41 Za8 (some ⟨b',o',none⟩) (n:=1) (c:=c') (k:=1) (by omega) W
  have hA:=Zbl (some ⟨b,o,none⟩) 1 c (.inr ⟨b,o,rfl⟩)
  obtain ⟨A1,hA1⟩:∃ A1,A1=cutA (some ⟨b',o',none⟩) 1 1 c':=⟨_,rfl⟩
  rw [←hA1] at f2
  rw [hA] at f1
  have HCB:=hid (fun (W0:World) (hW:Below w.heap.size w W0) (hs:W0.heap.size=w.heap.size)=>show Calls Tryz.prog 203 #[.slice (some ⟨w.heap.size,0,none⟩) 2 2] (W0.alloc (.cells #[.slice (some ⟨b,o,none⟩) 0 c,.slice A1 0 (c'-1)] 41)) (fun e w'=>∃ v,e=.returned v∧ShV X w' v []∧Below w.heap.size w w') from by
   obtain ⟨W,hWW⟩:∃ W,W=W0.alloc (.cells #[.slice (some ⟨b,o,none⟩) 0 c,.slice A1 0 (c'-1)] 41):=⟨_,rfl⟩
   have hW1:Below w.heap.size w W:=by rw [hWW];exact hW.alloc hW.size _
   have hbk:W.heap[w.heap.size]?=some (.cells #[.slice (some ⟨b,o,none⟩) 0 c,.slice A1 0 (c'-1)] 41 (0,0)):=by rw [hWW,←hs];exact Kac W0 _
   rw [←hWW]
   refine (Zcn w.heap.size (some ⟨b,o,none⟩) A1 0 0 c (c'-1) ([]:List Int) ([]:List Int) W rfl rfl (by omega) (by omega) (by
    have:=(HRX.out.next hW1).take 0
    simpa using this) (by
    rw [hA1]
    have:=(HRY.out.next hW1).cut (k:=1) (c:=c') (by simp;omega)
    simpa using this) (Kab.1 hbk).1 (Kaa _ _ 0 _ _ _ hbk) (Kaa _ _ 1 _ _ _ hbk)).mono ?_
   rintro e w' ⟨B,k,rfl,ho,hb'⟩
   exact ⟨_,rfl,ShV.of_own ho (fun k hk=>Kae (HXX.out k hk) hW1.size) rfl (by simp),hW1.trans (hb'.mono hW1.size)⟩)
  have w1:IntKind.i64.wrap 1=1:=rfl
  have w0:IntKind.i64.wrap 0=0:=rfl
  clear hpq hcx hcy hx hy hX
  go_enter Tryz.func181,Tryz.ntmps181
  go_wp2_with fail
  go_quiet (fail)
  clear hA hA1
  go_wp2_with fail
  go_region_with (first
   | (go_at_call 203;refine (HCB.out _ ?_ ?_).mono ?_;exact ⟨rfl,rfl,rfl,Kag _,fun _ _=>rfl⟩;rfl;rintro e w' ⟨v,rfl,hv,hb'⟩))
  all_goals
   go_wp2
   go_ret2
   exact ⟨_,by rw [HM.out];rfl,by rw [HM.out];exact hv,hb'⟩
 ·have t1:(p==q)=false:=by rw [Kaj];exact hpq
  have t2:(p != q)=true:=by unfold bne;rw [t1];rfl
  have HM:=hid (show matP [p] [q]=([],false) from by unfold matP;rw [if_pos (by simp;exact hpq)])
  have w1:IntKind.i64.wrap 1=1:=rfl
  have w0:IntKind.i64.wrap 0=0:=rfl
  clear hpq hcx hcy hx hy hX
  go_enter Tryz.func181,Tryz.ntmps181
  go_wp2_with fail
  go_quiet (fail)
  go_wp2
  go_ret2
  exact ⟨_,by rw [HM.out];rfl,by rw [HM.out];exact ShV.nil _ _,Zaa (Kai _ _) _⟩
theorem Znk (X:Nat→Prop) (A A':Option Addr) (c c':Nat) (p q q2:Int) (w:World) (hX:∀ k,X k→k<w.heap.size) (h1:1≤c) (h1':c≤9223372036854775807) (h2:2≤c') (h2':c'≤9223372036854775807) (hx:RdX X w A ([p].map VI)) (hy:RdX X w A' ([q,q2].map VI)):
  Calls Tryz.prog 181 #[.slice A 1 c,.slice A' 2 c'] w fun e w'=>∃ v,e=.returned (.tuple #[v,.bool (matP [p] [q,q2]).2])∧ShV X w' v (matP [p] [q,q2]).1∧Below w.heap.size w w':=by
 have HRX:=hid hx.rd
 have HRY:=hid hy.rd
 have HXX:=hid hX
 obtain ⟨b,o,rfl,hb,hcx⟩:=Zds hx (by simp)
 obtain ⟨b',o',rfl,hb',hcy⟩:=Zds hy (by simp)
 have e0:w.cell? ⟨b,o,none⟩=_:=hcx 0 p rfl
 have e1:w.cell? ⟨b',o',none⟩=_:=hcy 0 q rfl
 by_cases hpq:p=q
 ·have t1:(p==q)=true:=by rw [beq_iff_eq];exact hpq
  have t2:(p != q)=false:=by unfold bne;rw [t1];rfl
  have HM:=hid (show matP [p] [q,q2]=([q2],true) from by unfold matP;rw [if_neg (by simp;exact hpq)];rfl)
  have f1:∀ W,(Instr.sliceAt 41 (.slice (some ⟨b,o,none⟩) 1 c) none (some (.int .i64 0)) none).run Tryz.prog W=.ok (.slice (cutA (some ⟨b,o,none⟩) 0 1 c) 0 c) W:=fun W=>ZaB (P := Tryz.prog) Tryz.underlying41 Za8 (some ⟨b,o,none⟩) (n:=1) (c:=c) (h:=0) (by omega) W
  have f2:∀ W,(Instr.sliceAt 41 (.slice (some ⟨b',o',none⟩) 2 c') (some (.int .i64 1)) none none).run Tryz.prog W=.ok (.slice (cutA (some ⟨b',o',none⟩) 1 1 c') 1 (c'-1)) W:=fun W=>Za2 (P := Tryz.prog) Tryz.underlying41 Za8 (some ⟨b',o',none⟩) (n:=2) (c:=c') (k:=1) (by omega) W
  have hA:=Zbl (some ⟨b,o,none⟩) 1 c (.inr ⟨b,o,rfl⟩)
  obtain ⟨A1,hA1⟩:∃ A1,A1=cutA (some ⟨b',o',none⟩) 1 1 c':=⟨_,rfl⟩
  rw [←hA1] at f2
  rw [hA] at f1
  have HCB:=hid (fun (W0:World) (hW:Below w.heap.size w W0) (hs:W0.heap.size=w.heap.size)=>show Calls Tryz.prog 203 #[.slice (some ⟨w.heap.size,0,none⟩) 2 2] (W0.alloc (.cells #[.slice (some ⟨b,o,none⟩) 0 c,.slice A1 1 (c'-1)] 41)) (fun e w'=>∃ v,e=.returned v∧ShV X w' v [q2]∧Below w.heap.size w w') from by
   obtain ⟨W,hWW⟩:∃ W,W=W0.alloc (.cells #[.slice (some ⟨b,o,none⟩) 0 c,.slice A1 1 (c'-1)] 41):=⟨_,rfl⟩
   have hW1:Below w.heap.size w W:=by rw [hWW];exact hW.alloc hW.size _
   have hbk:W.heap[w.heap.size]?=some (.cells #[.slice (some ⟨b,o,none⟩) 0 c,.slice A1 1 (c'-1)] 41 (0,0)):=by rw [hWW,←hs];exact Kac W0 _
   rw [←hWW]
   refine (Zcn w.heap.size (some ⟨b,o,none⟩) A1 0 1 c (c'-1) ([]:List Int) ([q2]:List Int) W rfl rfl (by omega) (by omega) (by
    have:=(HRX.out.next hW1).take 0
    simpa using this) (by
    rw [hA1]
    have:=(HRY.out.next hW1).cut (k:=1) (c:=c') (by simp;omega)
    simpa using this) (Kab.1 hbk).1 (Kaa _ _ 0 _ _ _ hbk) (Kaa _ _ 1 _ _ _ hbk)).mono ?_
   rintro e w' ⟨B,k,rfl,ho,hb'⟩
   exact ⟨_,rfl,ShV.of_own ho (fun k hk=>Kae (HXX.out k hk) hW1.size) rfl (by simp),hW1.trans (hb'.mono hW1.size)⟩)
  have w1:IntKind.i64.wrap 1=1:=rfl
  have w0:IntKind.i64.wrap 0=0:=rfl
  clear hpq hcx hcy hx hy hX
  go_enter Tryz.func181,Tryz.ntmps181
  go_wp2_with fail
  go_quiet (fail)
  clear hA hA1
  go_wp2_with fail
  go_region_with (first
   | (go_at_call 203;refine (HCB.out _ ?_ ?_).mono ?_;exact ⟨rfl,rfl,rfl,Kag _,fun _ _=>rfl⟩;rfl;rintro e w' ⟨v,rfl,hv,hb'⟩))
  all_goals
   go_wp2
   go_ret2
   exact ⟨_,by rw [HM.out];rfl,by rw [HM.out];exact hv,hb'⟩
 ·have t1:(p==q)=false:=by rw [Kaj];exact hpq
  have t2:(p != q)=true:=by unfold bne;rw [t1];rfl
  have HM:=hid (show matP [p] [q,q2]=([],false) from by unfold matP;rw [if_pos (by simp;exact hpq)])
  have w1:IntKind.i64.wrap 1=1:=rfl
  have w0:IntKind.i64.wrap 0=0:=rfl
  clear hpq hcx hcy hx hy hX
  go_enter Tryz.func181,Tryz.ntmps181
  go_wp2_with fail
  go_quiet (fail)
  go_wp2
  go_ret2
  exact ⟨_,by rw [HM.out];rfl,by rw [HM.out];exact ShV.nil _ _,Zaa (Kai _ _) _⟩
theorem Znl (X:Nat→Prop) (A A':Option Addr) (c c':Nat) (p p2 q:Int) (w:World) (hX:∀ k,X k→k<w.heap.size) (h1:2≤c) (h1':c≤9223372036854775807) (h2:1≤c') (h2':c'≤9223372036854775807) (hx:RdX X w A ([p,p2].map VI)) (hy:RdX X w A' ([q].map VI)):
  Calls Tryz.prog 181 #[.slice A 2 c,.slice A' 1 c'] w fun e w'=>∃ v,e=.returned (.tuple #[v,.bool (matP [p,p2] [q]).2])∧ShV X w' v (matP [p,p2] [q]).1∧Below w.heap.size w w':=by
 have HRX:=hid hx.rd
 have HRY:=hid hy.rd
 have HXX:=hid hX
 obtain ⟨b,o,rfl,hb,hcx⟩:=Zds hx (by simp)
 obtain ⟨b',o',rfl,hb',hcy⟩:=Zds hy (by simp)
 have e0:w.cell? ⟨b,o+1,none⟩=_:=hcx 1 p2 rfl
 have e1:w.cell? ⟨b',o',none⟩=_:=hcy 0 q rfl
 by_cases hpq:p2=q
 ·have t1:(p2==q)=true:=by rw [beq_iff_eq];exact hpq
  have t2:(p2 != q)=false:=by unfold bne;rw [t1];rfl
  have HM:=hid (show matP [p,p2] [q]=([p],true) from by unfold matP;rw [if_neg (by simp;exact hpq)];rfl)
  have f1:∀ W,(Instr.sliceAt 41 (.slice (some ⟨b,o,none⟩) 2 c) none (some (.int .i64 1)) none).run Tryz.prog W=.ok (.slice (cutA (some ⟨b,o,none⟩) 0 1 c) 1 c) W:=fun W=>ZaB (P := Tryz.prog) Tryz.underlying41 Za8 (some ⟨b,o,none⟩) (n:=2) (c:=c) (h:=1) (by omega) W
  have f2:∀ W,(Instr.sliceAt 41 (.slice (some ⟨b',o',none⟩) 1 c') (some (.int .i64 1)) none none).run Tryz.prog W=.ok (.slice (cutA (some ⟨b',o',none⟩) 1 1 c') 0 (c'-1)) W:=fun W=>Za2 (P := Tryz.prog) Tryz.underlying41 Za8 (some ⟨b',o',none⟩) (n:=1) (c:=c') (k:=1) (by omega) W
  have hA:=Zbl (some ⟨b,o,none⟩) 1 c (.inr ⟨b,o,rfl⟩)
  obtain ⟨A1,hA1⟩:∃ A1,A1=cutA (some ⟨b',o',none⟩) 1 1 c':=⟨_,rfl⟩
  rw [←hA1] at f2
  rw [hA] at f1
  have HCB:=hid (fun (W0:World) (hW:Below w.heap.size w W0) (hs:W0.heap.size=w.heap.size)=>show Calls Tryz.prog 203 #[.slice (some ⟨w.heap.size,0,none⟩) 2 2] (W0.alloc (.cells #[.slice (some ⟨b,o,none⟩) 1 c,.slice A1 0 (c'-1)] 41)) (fun e w'=>∃ v,e=.returned v∧ShV X w' v [p]∧Below w.heap.size w w') from by
   obtain ⟨W,hWW⟩:∃ W,W=W0.alloc (.cells #[.slice (some ⟨b,o,none⟩) 1 c,.slice A1 0 (c'-1)] 41):=⟨_,rfl⟩
   have hW1:Below w.heap.size w W:=by rw [hWW];exact hW.alloc hW.size _
   have hbk:W.heap[w.heap.size]?=some (.cells #[.slice (some ⟨b,o,none⟩) 1 c,.slice A1 0 (c'-1)] 41 (0,0)):=by rw [hWW,←hs];exact Kac W0 _
   rw [←hWW]
   refine (Zcn w.heap.size (some ⟨b,o,none⟩) A1 1 0 c (c'-1) ([p]:List Int) ([]:List Int) W rfl rfl (by omega) (by omega) (by
    have:=(HRX.out.next hW1).take 1
    simpa using this) (by
    rw [hA1]
    have:=(HRY.out.next hW1).cut (k:=1) (c:=c') (by simp;omega)
    simpa using this) (Kab.1 hbk).1 (Kaa _ _ 0 _ _ _ hbk) (Kaa _ _ 1 _ _ _ hbk)).mono ?_
   rintro e w' ⟨B,k,rfl,ho,hb'⟩
   exact ⟨_,rfl,ShV.of_own ho (fun k hk=>Kae (HXX.out k hk) hW1.size) rfl (by simp),hW1.trans (hb'.mono hW1.size)⟩)
  have w1:IntKind.i64.wrap 1=1:=rfl
  have w0:IntKind.i64.wrap 0=0:=rfl
  clear hpq hcx hcy hx hy hX
  go_enter Tryz.func181,Tryz.ntmps181
  go_wp2_with fail
  go_quiet (fail)
  clear hA hA1
  go_wp2_with fail
  go_region_with (first
   | (go_at_call 203;refine (HCB.out _ ?_ ?_).mono ?_;exact ⟨rfl,rfl,rfl,Kag _,fun _ _=>rfl⟩;rfl;rintro e w' ⟨v,rfl,hv,hb'⟩))
  all_goals
   go_wp2
   go_ret2
   exact ⟨_,by rw [HM.out];rfl,by rw [HM.out];exact hv,hb'⟩
 ·have t1:(p2==q)=false:=by rw [Kaj];exact hpq
  have t2:(p2 != q)=true:=by unfold bne;rw [t1];rfl
  have HM:=hid (show matP [p,p2] [q]=([],false) from by unfold matP;rw [if_pos (by simp;exact hpq)])
  have w1:IntKind.i64.wrap 1=1:=rfl
  have w0:IntKind.i64.wrap 0=0:=rfl
  clear hpq hcx hcy hx hy hX
  go_enter Tryz.func181,Tryz.ntmps181
  go_wp2_with fail
  go_quiet (fail)
  go_wp2
  go_ret2
  exact ⟨_,by rw [HM.out];rfl,by rw [HM.out];exact ShV.nil _ _,Zaa (Kai _ _) _⟩
theorem Znm (X:Nat→Prop) (A A':Option Addr) (c c':Nat) (p p2 q q2:Int) (w:World) (hX:∀ k,X k→k<w.heap.size) (h1:2≤c) (h1':c≤9223372036854775807) (h2:2≤c') (h2':c'≤9223372036854775807) (hx:RdX X w A ([p,p2].map VI)) (hy:RdX X w A' ([q,q2].map VI)):
  Calls Tryz.prog 181 #[.slice A 2 c,.slice A' 2 c'] w fun e w'=>∃ v,e=.returned (.tuple #[v,.bool (matP [p,p2] [q,q2]).2])∧ShV X w' v (matP [p,p2] [q,q2]).1∧Below w.heap.size w w':=by
 have HRX:=hid hx.rd
 have HRY:=hid hy.rd
 have HXX:=hid hX
 obtain ⟨b,o,rfl,hb,hcx⟩:=Zds hx (by simp)
 obtain ⟨b',o',rfl,hb',hcy⟩:=Zds hy (by simp)
 have e0:w.cell? ⟨b,o+1,none⟩=_:=hcx 1 p2 rfl
 have e1:w.cell? ⟨b',o',none⟩=_:=hcy 0 q rfl
 by_cases hpq:p2=q
 ·have t1:(p2==q)=true:=by rw [beq_iff_eq];exact hpq
  have t2:(p2 != q)=false:=by unfold bne;rw [t1];rfl
  have HM:=hid (show matP [p,p2] [q,q2]=([p,q2],true) from by unfold matP;rw [if_neg (by simp;exact hpq)];rfl)
  have f1:∀ W,(Instr.sliceAt 41 (.slice (some ⟨b,o,none⟩) 2 c) none (some (.int .i64 1)) none).run Tryz.prog W=.ok (.slice (cutA (some ⟨b,o,none⟩) 0 1 c) 1 c) W:=fun W=>ZaB (P := Tryz.prog) Tryz.underlying41 Za8 (some ⟨b,o,none⟩) (n:=2) (c:=c) (h:=1) (by omega) W
  have f2:∀ W,(Instr.sliceAt 41 (.slice (some ⟨b',o',none⟩) 2 c') (some (.int .i64 1)) none none).run Tryz.prog W=.ok (.slice (cutA (some ⟨b',o',none⟩) 1 1 c') 1 (c'-1)) W:=fun W=>Za2 (P := Tryz.prog) Tryz.underlying41 Za8 (some ⟨b',o',none⟩) (n:=2) (c:=c') (k:=1) (by omega) W
  have hA:=Zbl (some ⟨b,o,none⟩) 1 c (.inr ⟨b,o,rfl⟩)
  obtain ⟨A1,hA1⟩:∃ A1,A1=cutA (some ⟨b',o',none⟩) 1 1 c':=⟨_,rfl⟩
  rw [←hA1] at f2
  rw [hA] at f1
  have HCB:=hid (fun (W0:World) (hW:Below w.heap.size w W0) (hs:W0.heap.size=w.heap.size)=>show Calls Tryz.prog 203 #[.slice (some ⟨w.heap.size,0,none⟩) 2 2] (W0.alloc (.cells #[.slice (some ⟨b,o,none⟩) 1 c,.slice A1 1 (c'-1)] 41)) (fun e w'=>∃ v,e=.returned v∧ShV X w' v [p,q2]∧Below w.heap.size w w') from by
   obtain ⟨W,hWW⟩:∃ W,W=W0.alloc (.cells #[.slice (some ⟨b,o,none⟩) 1 c,.slice A1 1 (c'-1)] 41):=⟨_,rfl⟩
   have hW1:Below w.heap.size w W:=by rw [hWW];exact hW.alloc hW.size _
   have hbk:W.heap[w.heap.size]?=some (.cells #[.slice (some ⟨b,o,none⟩) 1 c,.slice A1 1 (c'-1)] 41 (0,0)):=by rw [hWW,←hs];exact Kac W0 _
   rw [←hWW]
   refine (Zcn w.heap.size (some ⟨b,o,none⟩) A1 1 1 c (c'-1) ([p]:List Int) ([q2]:List Int) W rfl rfl (by omega) (by omega) (by
    have:=(HRX.out.next hW1).take 1
    simpa using this) (by
    rw [hA1]
    have:=(HRY.out.next hW1).cut (k:=1) (c:=c') (by simp;omega)
    simpa using this) (Kab.1 hbk).1 (Kaa _ _ 0 _ _ _ hbk) (Kaa _ _ 1 _ _ _ hbk)).mono ?_
   rintro e w' ⟨B,k,rfl,ho,hb'⟩
   exact ⟨_,rfl,ShV.of_own ho (fun k hk=>Kae (HXX.out k hk) hW1.size) rfl (by simp),hW1.trans (hb'.mono hW1.size)⟩)
  have w1:IntKind.i64.wrap 1=1:=rfl
  have w0:IntKind.i64.wrap 0=0:=rfl
  clear hpq hcx hcy hx hy hX
  go_enter Tryz.func181,Tryz.ntmps181
  go_wp2_with fail
  go_quiet (fail)
  clear hA hA1
  go_wp2_with fail
  go_region_with (first
   | (go_at_call 203;refine (HCB.out _ ?_ ?_).mono ?_;exact ⟨rfl,rfl,rfl,Kag _,fun _ _=>rfl⟩;rfl;rintro e w' ⟨v,rfl,hv,hb'⟩))
  all_goals
   go_wp2
   go_ret2
   exact ⟨_,by rw [HM.out];rfl,by rw [HM.out];exact hv,hb'⟩
 ·have t1:(p2==q)=false:=by rw [Kaj];exact hpq
  have t2:(p2 != q)=true:=by unfold bne;rw [t1];rfl
  have HM:=hid (show matP [p,p2] [q,q2]=([],false) from by unfold matP;rw [if_pos (by simp;exact hpq)])
  have w1:IntKind.i64.wrap 1=1:=rfl
  have w0:IntKind.i64.wrap 0=0:=rfl
  clear hpq hcx hcy hx hy hX
  go_enter Tryz.func181,Tryz.ntmps181
  go_wp2_with fail
  go_quiet (fail)
  go_wp2
  go_ret2
  exact ⟨_,by rw [HM.out];rfl,by rw [HM.out];exact ShV.nil _ _,Zaa (Kai _ _) _⟩
theorem Zkh (X:Nat→Prop) (A A':Option Addr) (n m c c':Nat) (w:World) (hn:n≤2) (hm:m≤2) (h0:n=0∨m=0):
  Calls Tryz.prog 181 #[.slice A n c,.slice A' m c'] w fun e w'=>e=.returned (.tuple #[.slice none 0 0,.bool false])∧Below w.heap.size w w':=by
 by_cases hn0:n=0
 ·subst hn0
  go_enter Tryz.func181,Tryz.ntmps181
  go_wp2_with fail
  go_quiet (fail)
  go_wp2
  go_ret2
  exact ⟨rfl,Zaa (Kai _ _) _⟩
 ·have hm0:m=0:=by omega
  subst hm0
  have q0:((n:Int)==0)=false:=by rw [Kaj];omega
  clear h0 hn0
  go_enter Tryz.func181,Tryz.ntmps181
  go_wp2_with fail
  go_quiet (fail)
  go_wp2
  go_ret2
  exact ⟨rfl,Zaa (Kai _ _) _⟩
theorem ZlX (X:Nat→Prop) (vx vy:Value) (x y:List Int) (w:World) (hX:∀ k,X k→k<w.heap.size) (hx:ShV X w vx x) (hy:ShV X w vy y):
  Calls Tryz.prog 181 #[vx,vy] w fun e w'=>∃ v,e=.returned (.tuple #[v,.bool (matP x y).2])∧ShV X w' v (matP x y).1∧Below w.heap.size w w':=by
 obtain ⟨A,c,rfl,x1,x2,x3,x4⟩:=hx
 obtain ⟨A',c',rfl,y1,y2,y3,y4⟩:=hy
 by_cases h0:x.length=0∨y.length=0
 ·have hm:matP x y=([],false):=by
   unfold matP
   rw [if_pos]
   rcases h0 with h | h
   ·exact .inl h
   ·exact .inr (.inl h)
  rw [hm]
  refine (Zkh X A A' x.length y.length c c' w x3 y3 h0).mono ?_
  rintro e w' ⟨rfl,hb⟩
  exact ⟨_,rfl,ShV.nil _ _,hb⟩
 ·match x,y,x1,x3,x4,y1,y3,y4,h0 with
  | [p],[q],x1,x3,x4,y1,y3,y4,_=>exact Znj X A A' c c' p q w hX x1 x2 y1 y2 x4 y4
  | [p],[q,q2],x1,x3,x4,y1,y3,y4,_=>exact Znk X A A' c c' p q q2 w hX x1 x2 y1 y2 x4 y4
  | [p,p2],[q],x1,x3,x4,y1,y3,y4,_=>exact Znl X A A' c c' p p2 q w hX x1 x2 y1 y2 x4 y4
  | [p,p2],[q,q2],x1,x3,x4,y1,y3,y4,_=>exact Znm X A A' c c' p p2 q q2 w hX x1 x2 y1 y2 x4 y4
  | [],_,_,_,_,_,_,_,h0=>exact absurd (.inl rfl) h0
  | _,[],_,_,_,_,_,_,h0=>exact absurd (.inr rfl) h0
  | _::_::_::_,_,_,x3,_,_,_,_,_=>simp at x3
  | _,_::_::_::_,_,_,_,_,y3,_,_=>simp at y3
end Go.Proofs.YtghlnncfigkkaaaGreatDoor
