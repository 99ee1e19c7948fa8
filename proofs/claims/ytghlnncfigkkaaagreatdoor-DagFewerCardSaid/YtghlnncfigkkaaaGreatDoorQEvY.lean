/-
 The evaluator's expr at any typed expression: it answers the words that the plain function says.
-/
import Derived.Test.YtghlnncfigkkaaaGreatDoorQEvL
import Derived.Test.YtghlnncfigkkaaaGreatDoorQEvX
import Derived.Handy
set_option maxRecDepth 100000
set_option maxHeartbeats 8000000
open Go.Lib (hid)
namespace Go.Proofs.YtghlnncfigkkaaaGreatDoor
set_option linter.unusedVariables false
set_option linter.unusedSimpArgs false
open Go.RowKit
theorem ZfB (n:Nat) (f:Nat→UInt64) {i:Nat} (hi:i<n):atL ((List.range n).map f) i=f i:=by
 unfold atL
 rw [Kak,List.length_range]
 split
 ·have:i=0:=by omega
  subst this
  exact Zat _ _ hi
 ·exact Zat _ _ hi
theorem ZfC {k:Int} {num n:Nat} {x y:List UInt64} {f:UInt64→UInt64→UInt64} (hf:∀ a b,f a b=oneF k num a b) (hx:x.length=1∨x.length=n) (hy:y.length=1∨y.length=n) (hn:max x.length y.length=n):
  eachP f x y=(List.range n).map fun i=>oneF k num (atL x i) (atL y i):=by
 rw [Zd6 hx hy hn]
 exact List.map_congr_left fun i _=>hf _ _
theorem ZiS {c y z:List UInt64} {n:Nat} (hn:1≤n) (hc:c.length=1∨c.length=n) (hy:y.length=n) (hz:z.length=n):
  eachP (fun a b=>xorW a b) z (eachP (fun a b=>andW (negW (andW a 1)) b) c (eachP (fun a b=>xorW a b) y z))=(List.range n).map fun i=>if andW (atL c i) 1=1 then atL y i else atL z i:=by
 have l1:(eachP (fun a b=>xorW a b) y z).length=n:=by rw [ZbH,hy,hz,Nat.max_self]
 have l2:(eachP (fun a b=>andW (negW (andW a 1)) b) c (eachP (fun a b=>xorW a b) y z)).length=n:=by rw [ZbH,l1];omega
 rw [Zd6 (n:=n) (.inr hz) (.inr l2) (by rw [hz,l2,Nat.max_self]),Zd6 (n:=n) hc (.inr l1) (by rw [l1];omega),Zd6 (n:=n) (.inr hy) (.inr hz) (by rw [hy,hz,Nat.max_self])]
 refine List.map_congr_left fun i hi => ?_
 have hi:=List.mem_range.1 hi
 rw [ZfB _ _ hi,ZfB _ _ hi]
 exact ZkS _ _ _
theorem Za0 {e:EI} {sh:List (List Int)} {names:Names} {s:List Int} (h:exprC e sh names=.inl s) (h2:e.kind≠2):Zab e.kind e.num (e.args.map fun a=>sh.getD a.toNat [])=(s,true)∧Zad s≠0:=by
 unfold exprC at h
 rw [if_neg h2] at h
 dsimp only at h
 split at h
 ·cases h
 ·rename_i hn
  injection h with h
  simp only [not_or] at hn
  refine ⟨Prod.ext h ?_,by rw [←h];exact hn.2⟩
  cases hb:(Zab e.kind e.num (e.args.map fun a=>sh.getD a.toNat [])).2 with
  | true=>rfl
  | false=>exact absurd hb hn.1
theorem ZaQ {t:TN} (h:TnOk t):1≤t.el.length∧t.el.length≤32:=by
 have h1:=Zby h.1
 have h2:=h.2
 omega
theorem ZcN {k:Int} {num:Nat} {x y:TN} {s:List Int} {f:UInt64→UInt64→UInt64} (hf:∀ a b,f a b=oneF k num a b) (hx:TnOk x) (hy:TnOk y) (hw:wideP x.sh y.sh=(s,true)) (hk:k≠7∧k≠11∧k≠12∧k≠14):
  eachP f x.el y.el=Zbc k num (Zad s).toNat [x,y]:=by
 obtain ⟨n,h1,h2,h3,h4,h5,h6⟩:=Ze0 hx hy hw
 unfold Zbc
 dsimp only
 rw [if_neg hk.1,if_neg hk.2.1,if_neg hk.2.2.1,if_neg hk.2.2.2,ZfC hf h4 h5 h6,h1,Int.toNat_natCast]
 rfl
theorem ZeY {k:Int} {num:Nat} {x:TN} {f:UInt64→UInt64→UInt64} (hf:∀ a b,f a b=oneF k num a b) (hx:TnOk x) (hk:k≠7∧k≠11∧k≠12∧k≠14):
  eachP f x.el x.el=Zbc k num (Zad x.sh).toNat [x]:=by
 unfold Zbc
 dsimp only
 rw [if_neg hk.1,if_neg hk.2.1,if_neg hk.2.2.1,if_neg hk.2.2.2,ZfC (n:=x.el.length) hf (.inr rfl) (.inr rfl) (Nat.max_self _),←hx.2,Int.toNat_natCast]
 rfl
theorem ZfD {l:List Int} {ne:Nat} (h:l.length=1) (hb:∀ a∈l,0≤a∧a<(ne:Int)):∃ a:Nat,l=[(a:Int)]∧a<ne:=by
 match l,h with
 | [x],_=>
  have:=hb x (by simp)
  exact ⟨x.toNat,by congr 1;omega,by omega⟩
theorem Ze2 {l:List Int} {ne:Nat} (h:l.length=2) (hb:∀ a∈l,0≤a∧a<(ne:Int)):∃ a b:Nat,l=[(a:Int),(b:Int)]∧a<ne∧b<ne:=by
 match l,h with
 | [x,y],_=>
  have h1:=hb x (by simp)
  have h2:=hb y (by simp)
  exact ⟨x.toNat,y.toNat,by rw [show ((x.toNat:Nat):Int)=x by omega,show ((y.toNat:Nat):Int)=y by omega],by omega,by omega⟩
theorem Znz {l:List Int} {ne:Nat} (h:l.length=3) (hb:∀ a∈l,0≤a∧a<(ne:Int)):∃ a b c:Nat,l=[(a:Int),(b:Int),(c:Int)]∧a<ne∧b<ne∧c<ne:=by
 match l,h with
 | [x,y,z],_=>
  have h1:=hb x (by simp)
  have h2:=hb y (by simp)
  have h3:=hb z (by simp)
  exact ⟨x.toNat,y.toNat,z.toNat,by rw [show ((x.toNat:Nat):Int)=x by omega,show ((y.toNat:Nat):Int)=y by omega,show ((z.toNat:Nat):Int)=z by omega],by omega,by omega,by omega⟩
theorem ZiT (B cb g vg:Nat) (Z:List Nat) (SA EA HA:Option Addr) (ns sc ne ec:Nat) (names:Zah) (V:Nat→TN) (shF:List (List Int)) (e:EI) (s:List Int) (A':Option Addr) (al c':Nat) (w:World)
  (hS:EvSt w B cb g vg Z SA EA HA ns sc ne ec names V shF) (hA:ArgsT e names shF s (e.args.map fun a=>V a.toNat)) (hb:∀ a∈e.args,0≤a∧a<(ne:Int)) (hnum:e.num≤18446744073709551615) (hr:Rd w w.heap.size A' (e.args.map VI)) (hal:al=e.args.length):
  Calls Tryz.prog 98 #[.pointer (some ⟨cb,0,none⟩),.agg #[.int .i64 e.kind,.string e.name,.int .u64 (e.num:Int),.slice A' al c',.int .i64 e.pos]] w (ExOut (evX cb g vg Z) w (exprE e (Zad s).toNat V names)):=by
 obtain ⟨dk,dn,du,da,dp⟩:=e
 dsimp only at hb hnum hr hal ⊢
 have hl:=hA.hl
 have hc:=hA.hc
 have hx:=hA.hx
 have ho:=hA.ho
 dsimp only at hl hx ho
 rcases ZbF dk with rfl | rfl | rfl | rfl | rfl | rfl | rfl | rfl | rfl | rfl | rfl | rfl | rfl | rfl | ⟨h1,h2,h3,h4,h5,h6,h7,h8,h9,h10,h11,h12,h13,h14⟩
 ·have hn:da.length=0:=by have:madeP 1=0:=rfl;omega
  have hd:da=[]:=List.eq_nil_of_length_eq_zero hn
  subst hd
  subst hal
  exact Zmn B cb g vg Z SA EA HA ns sc ne ec names V shF dn du dp A' c' w hS hr hnum
 ·have hn:da.length=0:=by have:madeP 2=0:=rfl;omega
  have hd:da=[]:=List.eq_nil_of_length_eq_zero hn
  subst hd
  subst hal
  refine Zmo B cb g vg Z SA EA HA ns sc ne ec names V shF dn du dp A' c' w hS hr ?_
  unfold exprC at hc
  rw [if_pos rfl] at hc
  cases hf:findN (shN names) dn with
  | none=>dsimp only at hc;rw [hf] at hc;cases hc
  | some q=>rfl
 ·have hn:da.length=1:=by have:madeP 3=1:=rfl;omega
  obtain ⟨a0,rfl,ha0⟩:=ZfD hn hb
  subst hal
  have o0:TnOk (V a0):=ho _ (by simp)
  obtain ⟨hsh,hs0⟩:=Za0 hc (show (3:Int)≠2 by decide)
  rw [←hx] at hsh
  have hs1:(V a0).sh=s:=congrArg Prod.fst hsh
  subst hs1
  have h:=Zmp B cb g vg Z SA EA HA ns sc ne ec names V shF dn du dp a0 A' c' w hS hr ha0 (ZaQ o0)
  rw [ZeY (k:=3) (num:=du) (fun a b=>by unfold oneF;rw [if_pos rfl]) o0 (by decide)] at h
  exact h
 ·have hn:da.length=2:=by have:madeP 4=2:=rfl;omega
  obtain ⟨a0,a1,rfl,ha0,ha1⟩:=Ze2 hn hb
  subst hal
  have o0:TnOk (V a0):=ho _ (by simp)
  have o1:TnOk (V a1):=ho _ (by simp)
  obtain ⟨hsh,hs0⟩:=Za0 hc (show (4:Int)≠2 by decide)
  rw [←hx] at hsh
  have hw:wideP (V a0).sh (V a1).sh=(s,true):=hsh
  have h:=Zmq B cb g vg Z SA EA HA ns sc ne ec names V shF dn du dp a0 a1 A' c' w hS hr ha0 ha1 (ZaQ o0) (ZaQ o1)
  rw [ZcN (k:=4) (num:=du) (fun a b=>by unfold oneF;rw [if_neg (by decide),if_pos rfl]) o0 o1 hw (by decide)] at h
  exact h
 ·have hn:da.length=2:=by have:madeP 5=2:=rfl;omega
  obtain ⟨a0,a1,rfl,ha0,ha1⟩:=Ze2 hn hb
  subst hal
  have o0:TnOk (V a0):=ho _ (by simp)
  have o1:TnOk (V a1):=ho _ (by simp)
  obtain ⟨hsh,hs0⟩:=Za0 hc (show (5:Int)≠2 by decide)
  rw [←hx] at hsh
  have hw:wideP (V a0).sh (V a1).sh=(s,true):=hsh
  have h:=Zmr B cb g vg Z SA EA HA ns sc ne ec names V shF dn du dp a0 a1 A' c' w hS hr ha0 ha1 (ZaQ o0) (ZaQ o1)
  rw [ZcN (k:=5) (num:=du) (fun a b=>by unfold oneF;rw [if_neg (by decide),if_neg (by decide),if_pos rfl]) o0 o1 hw (by decide)] at h
  exact h
 ·have hn:da.length=2:=by have:madeP 6=2:=rfl;omega
  obtain ⟨a0,a1,rfl,ha0,ha1⟩:=Ze2 hn hb
  subst hal
  have o0:TnOk (V a0):=ho _ (by simp)
  have o1:TnOk (V a1):=ho _ (by simp)
  obtain ⟨hsh,hs0⟩:=Za0 hc (show (6:Int)≠2 by decide)
  rw [←hx] at hsh
  have hw:wideP (V a0).sh (V a1).sh=(s,true):=hsh
  have h:=Zms B cb g vg Z SA EA HA ns sc ne ec names V shF dn du dp a0 a1 A' c' w hS hr ha0 ha1 (ZaQ o0) (ZaQ o1)
  rw [ZcN (k:=6) (num:=du) (fun a b=>by unfold oneF;rw [if_neg (by decide),if_neg (by decide),if_neg (by decide),if_pos rfl]) o0 o1 hw (by decide)] at h
  exact h
 ·have hn:da.length=2:=by have:madeP 7=2:=rfl;omega
  obtain ⟨a0,a1,rfl,ha0,ha1⟩:=Ze2 hn hb
  subst hal
  have o0:TnOk (V a0):=ho _ (by simp)
  have o1:TnOk (V a1):=ho _ (by simp)
  obtain ⟨hsh,hs0⟩:=Za0 hc (show (7:Int)≠2 by decide)
  rw [←hx] at hsh
  have hw:matP (V a0).sh (V a1).sh=(s,true):=hsh
  obtain ⟨m,q,n,m1,m2,q1,q2,n1,n2,l0,l1,y0,y1,es,d0,d1⟩:=ZdK o0 o1 hw hs0
  have hy:(V a1).sh[0]?=some (q:Int):=by
   cases hc9:(V a1).sh with
   | nil=>exact absurd hc9 y1
   | cons z r=>rw [hc9] at y0;exact congrArg some y0
  have h:=Zmt B cb g vg Z SA EA HA ns sc ne ec names V shF dn du dp a0 a1 A' c' w hS hr ha0 ha1 (ZaQ o0) (ZaQ o1) m q n ⟨m1,m2,q1,q2,n1,n2⟩ l0 l1 hy d0 d1
  have e:exprE ⟨7,dn,du,[(a0:Int),(a1:Int)],dp⟩ (Zad s).toNat V names=matW (V a0).el (V a1).el m q n:=by
   show matW (V a0).el (V a1).el ((V a0).el.length / ((V a1).sh.headD 0).toNat) ((V a1).sh.headD 0).toNat ((V a1).el.length / ((V a1).sh.headD 0).toNat)=_
   rw [y0,Int.toNat_natCast,d0,d1]
  rw [e]
  exact h
 ·have hn:da.length=2:=by have:madeP 8=2:=rfl;omega
  obtain ⟨a0,a1,rfl,ha0,ha1⟩:=Ze2 hn hb
  subst hal
  have o0:TnOk (V a0):=ho _ (by simp)
  have o1:TnOk (V a1):=ho _ (by simp)
  obtain ⟨hsh,hs0⟩:=Za0 hc (show (8:Int)≠2 by decide)
  rw [←hx] at hsh
  have hw:wideP (V a0).sh (V a1).sh=(s,true):=hsh
  have h:=Zmu B cb g vg Z SA EA HA ns sc ne ec names V shF dn du dp a0 a1 A' c' w hS hr ha0 ha1 (ZaQ o0) (ZaQ o1)
  rw [ZcN (k:=8) (num:=du) (fun a b=>by unfold oneF;rw [if_neg (by decide),if_neg (by decide),if_neg (by decide),if_neg (by decide),if_pos rfl];rfl) o0 o1 hw (by decide)] at h
  exact h
 ·have hn:da.length=1:=by have:madeP 9=1:=rfl;omega
  obtain ⟨a0,rfl,ha0⟩:=ZfD hn hb
  subst hal
  have o0:TnOk (V a0):=ho _ (by simp)
  obtain ⟨hsh,hs0⟩:=Za0 hc (show (9:Int)≠2 by decide)
  rw [←hx] at hsh
  have h63:du≤63:=of_decide_eq_true (congrArg Prod.snd hsh)
  have hs1:(V a0).sh=s:=congrArg Prod.fst hsh
  subst hs1
  have h:=Zmv B cb g vg Z SA EA HA ns sc ne ec names V shF dn du dp a0 A' c' w hS hr ha0 (ZaQ o0) h63
  rw [ZeY (k:=9) (num:=du) (fun a b=>by unfold oneF;rw [if_neg (by decide),if_neg (by decide),if_neg (by decide),if_neg (by decide),if_neg (by decide),if_pos rfl,Nat.min_eq_left h63]) o0 (by decide)] at h
  exact h
 ·have hn:da.length=1:=by have:madeP 10=1:=rfl;omega
  obtain ⟨a0,rfl,ha0⟩:=ZfD hn hb
  subst hal
  have o0:TnOk (V a0):=ho _ (by simp)
  obtain ⟨hsh,hs0⟩:=Za0 hc (show (10:Int)≠2 by decide)
  rw [←hx] at hsh
  have hs1:(V a0).sh=s:=congrArg Prod.fst hsh
  subst hs1
  have h:=ZkE B cb g vg Z SA EA HA ns sc ne ec names V shF dn du dp a0 A' c' w hS hr ha0 (ZaQ o0)
  rw [ZeY (k:=10) (num:=du) (fun a b=>by unfold oneF;rw [if_neg (by decide),if_neg (by decide),if_neg (by decide),if_neg (by decide),if_neg (by decide),if_neg (by decide),if_pos rfl];unfold reluW;rfl) o0 (by decide)] at h
  exact h
 ·have hn:da.length=1:=by have:madeP 11=1:=rfl;omega
  obtain ⟨a0,rfl,ha0⟩:=ZfD hn hb
  subst hal
  have o0:TnOk (V a0):=ho _ (by simp)
  obtain ⟨hsh,hs0⟩:=Za0 hc (show (11:Int)≠2 by decide)
  rw [←hx] at hsh
  have h:=ZkF B cb g vg Z SA EA HA ns sc ne ec names V shF dn du dp a0 A' c' w hS hr ha0 (ZaQ o0)
  have e:exprE ⟨11,dn,du,[(a0:Int)],dp⟩ (Zad s).toNat V names=[sumW (V a0).el]:=by unfold sumW;rfl
  rw [e]
  exact h
 ·have hn:da.length=1:=by have:madeP 12=1:=rfl;omega
  obtain ⟨a0,rfl,ha0⟩:=ZfD hn hb
  subst hal
  have o0:TnOk (V a0):=ho _ (by simp)
  obtain ⟨hsh,hs0⟩:=Za0 hc (show (12:Int)≠2 by decide)
  rw [←hx] at hsh
  exact ZkG B cb g vg Z SA EA HA ns sc ne ec names V shF dn du dp a0 A' c' w hS hr ha0 (ZaQ o0)
 ·have hn:da.length=2:=by have:madeP 13=2:=rfl;omega
  obtain ⟨a0,a1,rfl,ha0,ha1⟩:=Ze2 hn hb
  subst hal
  have o0:TnOk (V a0):=ho _ (by simp)
  have o1:TnOk (V a1):=ho _ (by simp)
  obtain ⟨hsh,hs0⟩:=Za0 hc (show (13:Int)≠2 by decide)
  rw [←hx] at hsh
  have hw:wideP (V a0).sh (V a1).sh=(s,true):=hsh
  have h:=ZkH B cb g vg Z SA EA HA ns sc ne ec names V shF dn du dp a0 a1 A' c' w hS hr ha0 ha1 (ZaQ o0) (ZaQ o1)
  rw [ZcN (k:=13) (num:=du) (fun a b=>by unfold oneF;rw [if_neg (by decide),if_neg (by decide),if_neg (by decide),if_neg (by decide),if_neg (by decide),if_neg (by decide),if_neg (by decide)];unfold maxW;rfl) o0 o1 hw (by decide)] at h
  exact h
 ·have hn:da.length=3:=by have:madeP 14=3:=rfl;omega
  obtain ⟨a0,a1,a2,rfl,ha0,ha1,ha2⟩:=Znz hn hb
  subst hal
  have o0:TnOk (V a0):=ho _ (by simp)
  have o1:TnOk (V a1):=ho _ (by simp)
  have o2:TnOk (V a2):=ho _ (by simp)
  obtain ⟨hsh,hs0⟩:=Za0 hc (show (14:Int)≠2 by decide)
  rw [←hx] at hsh
  have hs1:(V a1).sh=s:=congrArg Prod.fst hsh
  have hb2:(((V a1).sh==(V a2).sh)&&(((V a0).sh.length==0)||((V a0).sh==(V a1).sh)))=true:=congrArg Prod.snd hsh
  rw [Bool.and_eq_true,Bool.or_eq_true,beq_iff_eq,beq_iff_eq,beq_iff_eq] at hb2
  obtain ⟨hb3,hb4⟩:=hb2
  have n1:((V a1).el.length:Int)=Zad s:=by rw [←hs1];exact o1.2
  have n2:((V a2).el.length:Int)=Zad s:=by rw [←hs1,hb3];exact o2.2
  have n0:(V a0).el.length=1∨(V a0).el.length=(V a1).el.length:=by
   rcases hb4 with h | h
   ·left
    have h1:=o0.2
    rw [List.eq_nil_of_length_eq_zero h,Zbd] at h1
    omega
   ·right
    have h1:=o0.2
    rw [h,hs1] at h1
    omega
  have h:=ZkI B cb g vg Z SA EA HA ns sc ne ec names V shF dn du dp a0 a1 a2 A' c' w hS hr ha0 ha1 ha2 (ZaQ o0) (ZaQ o1) (ZaQ o2)
  rw [ZiS (n:=(V a1).el.length) (ZaQ o1).1 n0 rfl (by omega)] at h
  have e:exprE ⟨14,dn,du,[(a0:Int),(a1:Int),(a2:Int)],dp⟩ (Zad s).toNat V names=(List.range (V a1).el.length).map fun i=>if andW (atL (V a0).el i) 1=1 then atL (V a1).el i else atL (V a2).el i:=by
   rw [←n1,Int.toNat_natCast]
   rfl
  rw [e]
  exact h
 ·exfalso
  have:madeP dk = -1:=by
   unfold madeP
   rw [if_neg (by omega),if_neg (by omega),if_neg (by omega),if_neg h14]
  omega
def cellV (w:World) (a:Addr):Value:=(w.cell? a).getD undef
theorem Zd8 {w:World} {a:Addr} {v:Value} (h:w.cell? a=some v):w.cell? a=some (cellV w a):=by
 unfold cellV
 rw [h]
 rfl
attribute [irreducible] cellV
def LetP (wr:World) (B cb g vg:Nat) (Z:List Nat) (SA EA HA:Option Addr) (ns sc ne ec:Nat) (names:Zah) (V:Nat→TN) (shF:List (List Int)) (i:Nat) (w':World):Prop:=
 KeepB (fun k=>k=vg) wr w'∧Below B wr w'∧∃ V',EvSt w' B cb g vg Z SA EA HA ns sc ne ec names V' shF∧∀ j,j≠i→V' j=V j
section
variable {wr w w':World} {B cb g vg ns sc ne ec i:Nat} {Z:List Nat} {SA EA HA:Option Addr} {names:Zah} {V:Nat→TN} {shF:List (List Int)}
theorem LetP.next (h:LetP wr B cb g vg Z SA EA HA ns sc ne ec names V shF i w) (hb:Below w.heap.size w w'):LetP wr B cb g vg Z SA EA HA ns sc ne ec names V shF i w':=by
 obtain ⟨h1,h2,V',h3,h4⟩:=h
 have hBw:B≤w.heap.size:=by have:=h3.b1;have:=h3.lt _ (.inl rfl);omega
 exact ⟨h1.trans (KeepB.of hb),h2.trans (hb.mono hBw),V',h3.next hb,h4⟩
theorem LetP.set (h:LetP wr B cb g vg Z SA EA HA ns sc ne ec names V shF i w) (hi:i<ne) {sv ev:Value} {t:TN} (hv:TnV (evX cb g vg Z) w sv ev t) {W:World} (hW:W=(w.setCell ⟨vg,i*2,none⟩ sv).setCell ⟨vg,i*2+1,none⟩ ev):
  LetP wr B cb g vg Z SA EA HA ns sc ne ec names V shF i W∧∀ V2:Nat→TN,(∀ j,V2 j=if j=i then t else V j)→EvSt W B cb g vg Z SA EA HA ns sc ne ec names V2 shF:=by
 obtain ⟨h1,h2,V',h3,h4⟩:=h
 obtain ⟨r1,r2,r3⟩:=h3.set hi hv hW (fun j=>if j=i then t else V' j) (fun j=>rfl)
 refine ⟨⟨h1.trans r2,h2.trans r3,_,r1,fun j hj=>(if_neg hj).trans (h4 j hj)⟩,fun V2 hV2 => ?_⟩
 have:V2=fun j=>if j=i then t else V' j:=by
  funext j
  rw [hV2 j]
  by_cases e:j=i
  ·rw [if_pos e,if_pos e]
  ·rw [if_neg e,if_neg e,h4 j e]
 rw [this]
 exact r1
theorem EvSt.shape2 (h:EvSt w B cb g vg Z SA EA HA ns sc ne ec names V shF) {a:Nat} (ha:a<ne):∃ b o A c,HA=some ⟨b,o,none⟩∧b<w.heap.size∧¬ evX cb g vg Z b∧w.cell? ⟨b,o+a,none⟩=some (.slice A (shF.getD a []).length c)∧ShV (evX cb g vg Z) w (.slice A (shF.getD a []).length c) (shF.getD a []):=by
 obtain ⟨b,o,A,c,h1,h2,h3⟩:=h.shape ha
 obtain ⟨svs,s1,s2,_⟩:=h.hs
 rcases s1 with s1 | ⟨b',o',e,hb,hx,_⟩
 ·rw [s1] at s2;simp at s2;omega
 ·rw [h1] at e
  injection e with e
  injection e with e1 e2 _
  subst e1 e2
  exact ⟨b,o,A,c,h1,hb,hx,h2,h3⟩
end
theorem ZiU {es:List EI} {m:Nat→Bool} {sh:List (List Int)} {names:Zah} {V:Nat→TN} {i:Nat} {e:EI} (hm:m i=true) (he:es[i]?=some e) (j:Nat):
  letF es m sh names V (i+1) j=if j=i then ⟨sh.getD i [],exprE e (Zad (sh.getD i [])).toNat (letF es m sh names V i) names⟩ else letF es m sh names V i j:=by
 rw [ZcM,he]
 by_cases hj:j=i
 ·rw [if_pos ⟨hj,hm⟩,if_pos hj]
 ·rw [if_neg (fun h=>hj h.1),if_neg hj]
theorem ZiV {es:List EI} {m:Nat→Bool} {sh:List (List Int)} {names:Zah} {V:Nat→TN} {i:Nat} (hm:m i=false):letF es m sh names V (i+1)=letF es m sh names V i:=by
 funext j
 rw [ZcM,if_neg (fun h=>by rw [hm] at h;exact absurd h.2 (by decide))]
theorem ZhH {e:EI} {size:Nat} {V V':Nat→TN} {names:Zah} (h:∀ a∈e.args,V' a.toNat=V a.toNat):exprE e size V' names=exprE e size V names:=by
 unfold exprE
 rw [List.map_congr_left h]
theorem Zn0 {a b c d e f g h i j k l m n:Prop} (x:a∧b∧c∧d∧e∧f∧g∧h∧i∧j∧k∧l∧m∧n):n:=x.2.2.2.2.2.2.2.2.2.2.2.2.2
def Zn1 (w:World) (B cb g vg:Nat) (Z:List Nat) (SA EA HA:Option Addr) (ns sc ne ec:Nat) (names:Zah) (V:Nat→TN) (shF:List (List Int)) (e:Ending) (w':World):Prop:=
 e=.returned (.tuple #[])∧KeepB (fun k=>k=vg) w w'∧Below B w w'∧EvSt w' B cb g vg Z SA EA HA ns sc ne ec names V shF
theorem ZkJ (B cb g vg:Nat) (Z:List Nat) (SA EA HA:Option Addr) (ns sc ne ec:Nat) (es:List EI) (names:Zah) (V:Nat→TN) (shF:List (List Int)) (root:Nat) (w:World)
  (hne:ne=es.length) (hr:root<ne) (hn:ne≤100000) (hRd:RdEI w B EA es) (hok:exsOk 0 es=true) (hl:LetOk es (shN names) shF root) (hnum:∀ e∈es,e.num≤18446744073709551615)
  (hS:EvSt w B cb g vg Z SA EA HA ns sc ne ec names V shF):
  Calls Tryz.prog 54 #[.pointer (some ⟨cb,0,none⟩),.int .i64 root] w (Zn1 w B cb g vg Z SA EA HA ns sc ne ec names (letF es (Zac es root) shF names V (root+1)) shF):=by
 have HNE:=hid hne
 have HRD:=hid hRd
 have HOK:=hid hok
 have HL:=hid hl
 have HNU:=hid hnum
 have hlt:=hS.lt
 have hBw:B≤w.heap.size:=by have:=hS.b1;have:=hlt _ (.inl rfl);omega
 have HBW:=hid hBw
 have HLT:=hid hlt
 have HS:=hid hS
 have HC:=hid (fun W (hW:Below w.heap.size w W)=>Kaa _ _ 1 _ _ _ ((hW.block _ (hlt _ (.inl rfl))).trans hS.hc))
 obtain ⟨W0,hW0⟩:∃ W0,W0=w.alloc (.cells ((List.range (root+1)).map fun _=>bI false).toArray 3):=⟨_,rfl⟩
 have hm0:MkB W0 3 w.heap.size (root+1) (fun _=>bI false):=by rw [hW0];exact Kac w _
 have hb0:Below w.heap.size w W0:=by rw [hW0];exact (Kai _ _).alloc (Kag _) _
 have HM0:=hid hm0
 have HB0:=hid hb0
 have fr0:W0.frozen? ⟨w.heap.size,root,none⟩=false:=hm0.free root
 have hi0:(0:Int)≤(root:Int):=by omega
 have hi1:(root:Int)<((root+1:Nat):Int):=by omega
 have cw0:=hm0.cell (i:=root) (by omega)
 have hmk:(Instr.makeSlice 41 (.int .i64 ((root:Int)+1)) (.int .i64 ((root:Int)+1))).run Tryz.prog w=.ok (.slice (some ⟨w.heap.size,0,none⟩) (root+1) (root+1)) W0:=by
  rw [hW0];exact Zfw (root+1) (by omega) w ((root:Int)+1) (by simp)
 clear hW0 hm0 hb0 hne hRd hok hl hnum hS hlt hBw
 go_enter Tryz.func54,Tryz.ntmps54
 go_wp2
 have HM1:=hid (HM0.out.set (i:=root) (by omega) (.int .i64 1) (fun a=>bI (a==root)) (fun a=>by
  by_cases h:a=root
  ·subst h;simp [bI]
  ·simp [bI,h]))
 have HB1:=hid (Zaf (k:=root) HB0.out (Kag _) (.int .i64 1))
 clear fr0 cw0 hmk HM0 HB0 hi0 hi1
 go_loopw [5] (fun iv wr=>(∃ (j:Nat) (m:Nat→Bool),j≤root+1∧iv=.int .i64 ((j:Int)-1)∧Zac es root=markP es root j m∧MkB wr 3 w.heap.size (root+1) (fun a=>bI (m a)))∧Below w.heap.size w wr) (fun iv _=>(intOf iv+1).toNat)
 case atStart=>exact ⟨⟨root+1,fun a=>a==root,Kag _,(by rw [show ((root+1:Nat):Int)-1=(root:Int) by omega]),rfl,HM1.out⟩,HB1.out⟩
 case round=>
  clear HM1 HB1
  obtain ⟨⟨j,m,hj,rfl,hwm,hM⟩,hb⟩:=hrel
  have HW:=hid hwm
  have HM:=hid hM
  have HB:=hid hb
  clear hwm hM hb
  match j,hj,HW with
  | 0,hj,HW=>
   rw [show (((0:Nat):Int)-1) = -1 by omega]
   have hMw:MkB wr 3 w.heap.size (root+1) (fun a=>bI (Zac es root a)):=by rw [HW.out];exact HM.out
   have hMX:RdX (evX cb g vg Z) wr (some ⟨w.heap.size,0,none⟩) ((List.range (root+1)).map (fun i=>bI (Zac es root i))):=
    .inr ⟨w.heap.size,0,rfl,hMw.lt,(fun hx=>absurd (HLT.out _ hx) (by omega)),fun j v hv=>by
     rw [Kal,Option.map_eq_some_iff] at hv
     obtain ⟨a,ha,rfl⟩:=hv
     have hj:j<root+1:=by
      have:=(Kaf.1 ha).1
      simpa using this
     have:a=j:=by
      rw [List.getElem?_range hj] at ha
      injection ha with ha
      exact ha.symm
     subst this
     rw [Nat.zero_add]
     exact hMw.cell hj⟩
   have HMX:=hid hMX
   have HS1:=hid (HS.out.next HB.out)
   have HK1:=hid (KeepB.of (X:=fun k=>k=vg) HB.out)
   have HB1:=hid (HB.out.mono HBW.out)
   obtain ⟨gm,hgm⟩:∃ gm,gm=w.heap.size:=⟨_,rfl⟩
   rw [←hgm] at HMX ⊢
   clear hMX hMw HM HB HW hj HC hgm
   go_wp2_with fail
   go_loopw [47] (fun iv wr=>∃ i:Nat,i≤root+1∧iv=.int .i64 i∧EvSt wr B cb g vg Z SA EA HA ns sc ne ec names (letF es (Zac es root) shF names V i) shF∧KeepB (fun k=>k=vg) w wr∧Below B w wr∧RdX (evX cb g vg Z) wr (some ⟨gm,0,none⟩) ((List.range (root+1)).map (fun i=>bI (Zac es root i)))) (fun iv _=>root+1-(intOf iv).toNat)
   case atStart=>exact ⟨0,by omega,rfl,HS1.out,HK1.out,HB1.out,HMX.out⟩
   case round=>
    clear HS1 HB1 HK1 HMX
    obtain ⟨i,hi,rfl,hS,hK,hB,hM⟩:=hrel
    have HK:=hid hK
    have HB:=hid hB
    have HM:=hid hM
    by_cases hlt:i<root+1
    ·have i0:(0:Int)≤(i:Int):=by omega
     have i1:(i:Int)<((root+1:Nat):Int):=by omega
     have i2:(i:Int)<(ne:Int):=by omega
     obtain ⟨b',o',e',hb',_,hcm⟩:=(HM.out.resolve_left (by simp))
     injection e' with e'
     injection e' with e' e'' _
     subst e' e''
     have cm:wr.cell? ⟨gm,i,none⟩=some (bI (Zac es root i)):=by
      have:=hcm i _ (by rw [Kal,List.getElem?_range hlt];rfl)
      rwa [Nat.zero_add] at this
     clear hcm hb'
     cases hmi:Zac es root i with
     | false=>
      have HX:=hid (ZiV (sh:=shF) (names:=names) (V:=V) (es:=es) hmi)
      have HS:=hid hS
      rw [hmi] at cm
      simp only [bI,Bool.false_eq_true,if_false] at cm
      clear hmi hS hK hB hM
      go_wp2
      exact ⟨⟨i+1,by omega,rfl,by rw [HX.out];exact HS.out,HK.out,HB.out,HM.out⟩,by simp [intOf];omega⟩
     | true=>
      have ht:es[i]?=some (es[i]'(by rw [←HNE.out];omega)):=Kad _
      obtain ⟨d,hd⟩:∃ d,d=es[i]'(by rw [←HNE.out];omega):=⟨_,rfl⟩
      rw [←hd] at ht
      have hnok:∀ p∈names,TnOk p.2:=by
       obtain ⟨nv,_,hnt⟩:=hS.hn
       exact hnt.ok
      have hA:=(ZiN (V:=V) HOK.out (ZaU HOK.out) HL.out hnok i hmi).2 d ht
      have hnx:=ZiU (sh:=shF) (names:=names) (V:=V) (es:=es) hmi ht
      obtain ⟨Vi,hVi⟩:∃ Vi,Vi=letF es (Zac es root) shF names V i:=⟨_,rfl⟩
      rw [←hVi] at hS hA hnx
      have hdu:=HNU.out d (Kam ht)
      have hag:∀ a∈d.args,0≤a∧a<(i:Int):=fun a ha=>ZaU HOK.out i d ht a ha
      obtain ⟨b,o,rfl,hbl,c0,c1,c2,⟨A',c',c3,c3r,c3n,-⟩,c4⟩:=(HRD.out.below HB.out).at_ ht
      obtain ⟨bh,oh,Ah,ch,rfl,hbh,hxh,sc0,ssv⟩:=hS.shape2 (a:=i) (by omega)
      obtain ⟨L,hL⟩:∃ L,L=exprE d (Zad (shF.getD i [])).toNat Vi names:=⟨_,rfl⟩
      rw [←hL] at hnx
      obtain ⟨sl,hsl⟩:∃ sl,sl=shF.getD i []:=⟨_,rfl⟩
      rw [←hsl] at hL hA sc0 ssv hnx
      obtain ⟨dk,dn,du,da,dp⟩:=d
      dsimp only at c0 c1 c2 c3 c3r c3n c4 hdu hag
      obtain ⟨al,hal⟩:∃ al,al=da.length:=⟨_,rfl⟩
      rw [←hal] at c3 c3n
      obtain ⟨hl,hhl⟩:∃ hl,hl=sl.length:=⟨_,rfl⟩
      rw [←hhl] at sc0 ssv
      rw [hmi] at cm
      simp only [bI,if_true] at cm
      have HP0:=hid (show LetP wr B cb g vg Z SA (some ⟨b,o,none⟩) (some ⟨bh,oh,none⟩) ns sc ne ec names Vi shF i wr.drew from ⟨⟨Kag _,fun _ _ _=>rfl⟩,(Kai _ _).drew,Vi,hS.next (Kai _ _).drew,fun _ _=>rfl⟩)
      have HSS:=hid (show ∀ W,LetP wr B cb g vg Z SA (some ⟨b,o,none⟩) (some ⟨bh,oh,none⟩) ns sc ne ec names Vi shF i W→W.cell? ⟨cb,1,none⟩=some (.slice (some ⟨b,o,none⟩) ne ec)∧W.cell? ⟨cb,3,none⟩=some (.slice (some ⟨vg,0,none⟩) ne ne)∧W.cell? ⟨cb,4,none⟩=some (.slice (some ⟨bh,oh,none⟩) ne ne)∧W.cell? ⟨bh,oh+i,none⟩=some (.slice Ah hl ch)∧W.cell? ⟨b,o+i*5,none⟩=some (.int .i64 dk)∧W.cell? ⟨b,o+i*5+1,none⟩=some (.string dn)∧W.cell? ⟨b,o+i*5+2,none⟩=some (.int .u64 (du:Int))∧W.cell? ⟨b,o+i*5+3,none⟩=some (.slice A' al c')∧W.cell? ⟨b,o+i*5+4,none⟩=some (.int .i64 dp)∧W.cell? ⟨vg,i*2,none⟩=some (cellV W ⟨vg,i*2,none⟩)∧W.cell? ⟨vg,i*2+1,none⟩=some (cellV W ⟨vg,i*2+1,none⟩)∧W.frozen? ⟨vg,i*2,none⟩=false∧W.frozen? ⟨vg,i*2+1,none⟩=false∧LetP wr B cb g vg Z SA (some ⟨b,o,none⟩) (some ⟨bh,oh,none⟩) ns sc ne ec names Vi shF i W from fun W hP=>by
       obtain ⟨p1,p2,V',p3,p4⟩:=hP
       obtain ⟨_,_,_,_,u0,u1,_⟩:=p3.val (a:=i) (by omega)
       exact ⟨Kaa _ _ 1 _ _ _ p3.hc,Kaa _ _ 3 _ _ _ p3.hc,Kaa _ _ 4 _ _ _ p3.hc,(p1.xv.2 ⟨bh,oh+i,none⟩ hbh hxh).trans sc0,(p2.cell (p:=⟨b,_,none⟩) hbl).trans c0,(p2.cell (p:=⟨b,_,none⟩) hbl).trans c1,(p2.cell (p:=⟨b,_,none⟩) hbl).trans c2,(p2.cell (p:=⟨b,_,none⟩) hbl).trans c3,(p2.cell (p:=⟨b,_,none⟩) hbl).trans c4,Zd8 u0,Zd8 u1,p3.free _,p3.free _,p1,p2,V',p3,p4⟩)
      have HEX:=hid (show ∀ W,LetP wr B cb g vg Z SA (some ⟨b,o,none⟩) (some ⟨bh,oh,none⟩) ns sc ne ec names Vi shF i W→Calls Tryz.prog 98 #[.pointer (some ⟨cb,0,none⟩),.agg #[.int .i64 dk,.string dn,.int .u64 (du:Int),.slice A' al c',.int .i64 dp]] W (fun e w'=>(∃ A6 c6 n6,e=.returned (.slice A6 n6 c6)∧WoV (evX cb g vg Z) w' (.slice A6 n6 c6) L)∧LetP wr B cb g vg Z SA (some ⟨b,o,none⟩) (some ⟨bh,oh,none⟩) ns sc ne ec names Vi shF i w'∧Below W.heap.size W w') from fun W hP=>by
       have hP':=hP
       obtain ⟨p1,p2,V',p3,p4⟩:=hP
       have hVa:∀ a∈da,V' a.toNat=Vi a.toNat:=fun a ha=>p4 _ (by have:=hag a ha;omega)
       refine (ZiT B cb g vg Z SA (some ⟨b,o,none⟩) (some ⟨bh,oh,none⟩) ns sc ne ec names V' shF ⟨dk,dn,du,da,dp⟩ sl A' al c' W p3 (by rw [List.map_congr_left hVa];exact hA) (fun a ha=>by have:=hag a ha;omega) hdu ((c3r.below p2).more (Kah (by have:=hS.b1;have:=hS.lt _ (.inl rfl);omega) p2.size)) hal).mono ?_
       rintro e w' ⟨hb,v,rfl,hv⟩
       rw [ZhH hVa,←hL] at hv
       have hv':=hv
       obtain ⟨A6,c6,rfl,_⟩:=hv'
       exact ⟨⟨A6,c6,_,rfl,hv⟩,hP'.next hb,hb⟩)
      have HFI:=hid (show ∀ (w6:World) (A6:Option Addr) (n6 c6:Nat),LetP wr B cb g vg Z SA (some ⟨b,o,none⟩) (some ⟨bh,oh,none⟩) ns sc ne ec names Vi shF i w6→WoV (evX cb g vg Z) w6 (.slice A6 n6 c6) L→LetP wr B cb g vg Z SA (some ⟨b,o,none⟩) (some ⟨bh,oh,none⟩) ns sc ne ec names Vi shF i ((w6.setCell ⟨vg,i*2,none⟩ (.slice Ah hl ch)).setCell ⟨vg,i*2+1,none⟩ (.slice A6 n6 c6))∧EvSt ((w6.setCell ⟨vg,i*2,none⟩ (.slice Ah hl ch)).setCell ⟨vg,i*2+1,none⟩ (.slice A6 n6 c6)) B cb g vg Z SA (some ⟨b,o,none⟩) (some ⟨bh,oh,none⟩) ns sc ne ec names (letF es (Zac es root) shF names V (i+1)) shF from fun w6 A6 n6 c6 hP hv=>by
       have hr:=hP.set (i:=i) (by omega) (sv:=.slice Ah hl ch) (ev:=.slice A6 n6 c6) (t:=⟨sl,L⟩) ⟨ssv.keep hP.1.xv,hv⟩ rfl
       exact ⟨hr.1,hr.2 _ hnx⟩)
      have HI:=hid (show i<ne by omega)
      clear hmi ht hd hnok hA hnx hVi hdu hag hbl c0 c1 c2 c3 c3r c3n c4 hbh hxh sc0 ssv hL hsl hal hhl hS hK hB hM
      go_wp2_with fail
      have S0:=hid (HSS.out _ HP0.out)
      go_region_held3 (fun w'=>w'.cell? ⟨cb,1,none⟩=some (.slice (some ⟨b,o,none⟩) ne ec)∧w'.cell? ⟨cb,3,none⟩=some (.slice (some ⟨vg,0,none⟩) ne ne)∧w'.cell? ⟨cb,4,none⟩=some (.slice (some ⟨bh,oh,none⟩) ne ne)∧w'.cell? ⟨bh,oh+i,none⟩=some (.slice Ah hl ch)∧w'.cell? ⟨b,o+i*5,none⟩=some (.int .i64 dk)∧w'.cell? ⟨b,o+i*5+1,none⟩=some (.string dn)∧w'.cell? ⟨b,o+i*5+2,none⟩=some (.int .u64 (du:Int))∧w'.cell? ⟨b,o+i*5+3,none⟩=some (.slice A' al c')∧w'.cell? ⟨b,o+i*5+4,none⟩=some (.int .i64 dp)∧w'.cell? ⟨vg,i*2,none⟩=some (cellV w' ⟨vg,i*2,none⟩)∧w'.cell? ⟨vg,i*2+1,none⟩=some (cellV w' ⟨vg,i*2+1,none⟩)∧w'.frozen? ⟨vg,i*2,none⟩=false∧w'.frozen? ⟨vg,i*2+1,none⟩=false∧LetP wr B cb g vg Z SA (some ⟨b,o,none⟩) (some ⟨bh,oh,none⟩) ns sc ne ec names Vi shF i w') (first | with_reducible exact S0.out | assumption | exact HSS.out _ (by assumption) | exact HSS.out _ (HFI.out _ _ _ _ P6.out V6.out).1)
       (first | (go_at_call 98;refine (HEX.out _ ?_).mono ?_;(apply Zn0;assumption);rintro e w6 ⟨⟨A6,c6,n6,rfl,v6⟩,p6,b6⟩;have P6:=hid p6;have V6:=hid v6))
      all_goals
       have R:=hid (HFI.out _ _ _ _ P6.out V6.out)
       go_wp2
       exact ⟨⟨i+1,by omega,rfl,R.out.2,HK.out.trans R.out.1.1,HB.out.trans R.out.1.2.1,HM.out.keep R.out.1.1.xv⟩,by simp [intOf];omega⟩
    ·obtain rfl:i=root+1:=by omega
     have HS:=hid hS
     clear hS hK hB hM hlt
     go_wp2
     refine bodyPost_end (results_none rfl _ _ _) rfl ?_
     exact ⟨rfl,HK.out,HB.out,HS.out⟩
  | i+1,hj,HW=>
   rw [show (((i+1:Nat):Int)-1)=(i:Int) by omega]
   have ht:es[i]?=some (es[i]'(by rw [←HNE.out];omega)):=Kad _
   obtain ⟨d,hd⟩:∃ d,d=es[i]'(by rw [←HNE.out];omega):=⟨_,rfl⟩
   rw [←hd] at ht
   have HT:=hid ht
   obtain ⟨b,o,rfl,hbl,c0,c1,c2,⟨A',c',c3,c3r,c3n,-⟩,c4⟩:=(HRD.out.below (HB.out.mono HBW.out)).at_ ht
   have cc:=HC.out _ HB.out
   have i0:(0:Int)≤(i:Int):=by omega
   have i1:(i:Int)<(ne:Int):=by omega
   obtain ⟨dk,dn,du,da,dp⟩:=d
   dsimp only at c3 c3r c3n
   obtain ⟨al,hal⟩:∃ al,al=da.length:=⟨_,rfl⟩
   rw [←hal] at c3 c3n
   have HAL:=hid hal
   have HDR:=hid (show ∀ W,Below w.heap.size w W→Rd W B A' (da.map VI) from fun W hW=>by
    obtain ⟨b2,o2,e2,_,_,_,_,⟨A2,c2,f3,f3r,_⟩,_⟩:=(HRD.out.below (hW.mono HBW.out)).at_ ht
    injection e2 with e2
    injection e2 with e2 e3 _
    subst e2 e3
    have:(W.cell? ⟨b,o+i*5+3,none⟩)=wr.cell? ⟨b,o+i*5+3,none⟩:=((hW.mono HBW.out).cell (p:=⟨b,_,none⟩) hbl).trans ((HB.out.mono HBW.out).cell (p:=⟨b,_,none⟩) hbl).symm
    rw [f3,c3] at this
    injection this with this
    injection this with this _ _
    rw [←this]
    exact f3r)
   clear ht hd c3r c0 c1 c2 c4 hal
   go_wp2
   have hsm:=hid (fun (k:Nat) (x:Int) (hx:da[k]?=some x)=>Zc0 HOK.out HT.out hx)
   clear cc c3 i0 i1
   go_loopw [30] (fun kv wr=>(∃ k:Nat,k≤al∧kv=.int .i64 k∧MkB wr 3 w.heap.size (root+1) (fun a=>bI (mrkK m i da k a)))∧Below w.heap.size w wr) (fun kv _=>al-(intOf kv).toNat)
   case atStart=>exact ⟨⟨0,by omega,rfl,by rw [ZcF];exact HM.out⟩,HB.out⟩
   case round=>
    clear HM HB
    obtain ⟨⟨k,hk,rfl,hM⟩,hb⟩:=hrel
    have HM:=hid hM
    have HB:=hid hb
    clear hM hb
    by_cases hlk:k<al
    ·have ht:da[k]?=some (da[k]'(by rw [←HAL.out];exact hlk)):=Kad _
     obtain ⟨x,hx⟩:∃ d,d=da[k]'(by rw [←HAL.out];exact hlk):=⟨_,rfl⟩
     rw [←hx] at ht
     obtain ⟨x0,x1⟩:=hsm.out k x ht
     obtain ⟨a,rfl⟩:∃ a:Nat,x=(a:Int):=⟨x.toNat,by omega⟩
     have ha:a<i:=by omega
     obtain ⟨b2,o2,rfl,hbl2,d0⟩:=(HDR.out _ HB.out).at_ (show (da.map VI)[k]?=some (VI (a:Int)) by rw [Kal,ht];rfl)
     unfold VI at d0
     have k0:(0:Int)≤(k:Int):=by omega
     have k1:(k:Int)<(al:Int):=by omega
     have a0:(0:Int)≤(a:Int):=by omega
     have a1:(a:Int)<((root+1:Nat):Int):=by omega
     have i0:(0:Int)≤(i:Int):=by omega
     have i1:(i:Int)<((root+1:Nat):Int):=by omega
     have ca:=HM.out.cell (i:=a) (by omega)
     have ci:=HM.out.cell (i:=i) (by omega)
     rw [ZcG (fun j d hd=>(hsm.out j d hd).2)] at ci
     have fa:=HM.out.free a
     have HST:=hid (fun v (hv:v=bI (mrkK m i da k a||m i))=>HM.out.drew.set (i:=a) (by omega) v (fun y=>bI (mrkK m i da (k+1) y)) (fun y=>by
      rw [ZcH m i da ht y,hv]
      split <;> rfl))
     have HBT:=hid (fun v=>Zaf (k:=a) HB.out.drew (Kag _) v)
     obtain ⟨ba,hba⟩:∃ ba,ba=mrkK m i da k a:=⟨_,rfl⟩
     rw [←hba] at ca HST
     obtain ⟨bi,hbi⟩:∃ bi,bi=m i:=⟨_,rfl⟩
     rw [←hbi] at ci HST
     clear ht hx hba hbi hbl2 x0 x1
     cases ba <;> cases bi
     all_goals
      simp only [bI,if_true,Bool.false_eq_true,if_false] at ca ci
      go_wp2_with fail
      go_region
      all_goals
       go_wp2
       exact ⟨⟨⟨k+1,by omega,rfl,HST.out _ rfl⟩,HBT.out _⟩,by simp [intOf];omega⟩
    ·obtain rfl:al=k:=by omega
     have HX:=hid (show Zac es root=markP es root i (mrkK m i da al) from by rw [HW.out,Zbv HT.out,HAL.out])
     clear hk hlk
     go_wp2
     exact ⟨⟨⟨i,_,by omega,rfl,HX.out,HM.out⟩,HB.out⟩,by simp [intOf]⟩
end Go.Proofs.YtghlnncfigkkaaaGreatDoor
