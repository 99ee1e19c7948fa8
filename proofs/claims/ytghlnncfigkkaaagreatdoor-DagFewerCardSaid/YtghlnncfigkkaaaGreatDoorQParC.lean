/-
 The parser's put: a further expression in its row.
-/
import Derived.Test.YtghlnncfigkkaaaGreatDoorQParB
import Derived.Deep.AppendLies
set_option maxRecDepth 100000
set_option maxHeartbeats 4000000
open Go.Lib (hid)
namespace Go.Proofs.YtghlnncfigkkaaaGreatDoor
set_option linter.unusedVariables false
set_option linter.unusedSimpArgs false
open Go.RowKit
theorem ZmI:(Tryz.prog.info? 90).map (fun i=>(i.zero,i.size,i.bytes))=some (some (.agg #[.int .i64 0,.string ⟨#[]⟩,.int .u64 0,.slice none 0 0,.int .i64 0]),5,64):=by kernel_rfl
theorem Zhn {X:Nat→Prop} {base:Nat} {w:World} {v:Value} {l:List Nat} (h:ArgsV X base w v l):v.oneCell'=true:=by
 obtain ⟨A,c,rfl,_⟩:=h
 rfl
theorem Zjv {X:Nat→Prop} {w:World} {ops:Array Oper} {o:Oper} {a:Act} {K:Act→World→Prop} {Q:Exit→Act→World→Prop} {E:Prop} (hgd:o.guard=none) (s x:Operand)
  (ho:o.op=.call { callee:=.builtin .append,args:=#[s,x],argTypes:=#[24,24] }) (base:Nat)
  (A:Option Addr) (cap:Nat) (es:List Ex) (n:Nat) (hn:es.length=n) (hs:a.eval s=.slice A n cap) (m:Ex × Value) (hown:OwnEX (XA X (vA m.2)) w base A cap es)
  (g2:Nat) (hx:a.eval x=.slice (some ⟨g2,0,none⟩) 1 1) (hb:w.heap[g2]?=some (.cells (Zc5 m).toArray 90 (0,0))) (hargs:ArgsV X base w m.2 m.1.args)
  (hbytes:n+1≤1000000) (hbase:base≤w.heap.size)
  (h:∀ A' cap' w',OwnEX X w' base A' cap' (es++[m.1])→w.grownBy w' (blk A)→KT base w w'→K (a.put o.dst (.slice A' (n+1) cap')) w'):
  if Region.wanted o (yielded ops a.tmps)=true then Oper.wp Tryz.prog o a w K Q else E:=by
 have hw:Region.wanted o (yielded ops a.tmps)=true:=by simp [Region.wanted,hgd]
 rw [if_pos hw]
 subst hn
 obtain ⟨ms,hm1,hm2,hm3,hm4⟩:=hown
 obtain ⟨i0,hi0,hz0,hz1,hz2⟩:=info_parts ZmI
 refine wp_append_own w s x 24 ho base 90 i0 _ 5 64 Tryz.underlying24 hi0 hz0 hz1 hz2 rfl (by decide) _ es.length (ms.flatMap Zc5) hs hm2 ⟨g2,0,none⟩ 1 1 (Zc5 m) hx rfl ?_ ?_ (by simp only [maxLen];omega) (by omega) hbase ?_
 ·intro j u hu
  have e':(⟨g2,0,none⟩:Addr).add j=⟨g2,j,none⟩:=by unfold Addr.add;split <;> simp_all
  rw [e',Kaa w g2 j _ _ (0,0) hb]
  simpa using hu
 ·intro u hu
  unfold Zc5 at hu
  simp at hu
  rcases hu with rfl | rfl | rfl | rfl | rfl
  ·rfl
  ·rfl
  ·rfl
  ·exact Zhn hargs
  ·rfl
 ·intro v' w' h1 h2 _
  have hk:KT base w w':=KT.grown (A:=A) (by rw [Za4] at h2;exact h2) rfl (Zcs hm2)
  rcases h1.2 with ⟨_,h0⟩ | ⟨g,cap',cur,rfl,r⟩
  ·omega
  ·refine h (some ⟨g,0,none⟩) cap' w' ⟨ms++[m],by rw [List.map_append,hm1];rfl,?_,?_,?_⟩ (by rw [Za4] at h2;exact h2) hk
   ·rw [List.flatMap_append,List.length_append]
    simp only [List.flatMap_cons,List.flatMap_nil,List.append_nil]
    exact h1
   ·intro y hy
    rcases List.mem_append.1 hy with hy | hy
    ·exact ((hm3 y hy).re fun k hk=>.inl (.inl hk)).kt hk
    ·rw [List.mem_singleton.1 hy]
     exact hargs.kt hk
   ·rw [List.pairwise_append]
    refine ⟨hm4,List.pairwise_singleton _ _,fun y hy z hz k hk => ?_⟩
    rw [List.mem_singleton.1 hz]
    obtain ⟨Ay,cy,ey,_,ny⟩:=hm3 y hy
    rw [ey] at hk
    exact fun h=>ny k hk (.inr h)
section
variable {X:Nat→Prop} {base P tc:Nat} {TA:Option Addr} {L:List Tok} {s:PS} {SA EA:Option Addr} {sc ec:Nat} {ev:Value}
theorem pr_P {w w':World} (h:PR X base P TA tc L s w SA sc EA ec ev) (hg:w.grownBy w' (blk EA)):w'.heap[P]?=some (.cells (PRow TA L.length tc s.i (.slice SA s.ss.length sc) (.slice EA s.es.length ec) s.deep ev) 160 (0,0)):=by
 have hPE:blk EA≠some P:=by
  obtain ⟨ms,_,h2,_⟩:=h.ownE
  rcases Zcs h2 with rfl | ⟨g,cur,rfl,_,hc⟩
  ·simp [blk]
  ·intro e'
   have e'':g=P:=by simpa [blk] using e'
   subst e''
   have hb:=h.blk
   rw [hc] at hb
   injection hb with hb
   injection hb with _ hb _
   exact absurd hb (by decide)
 exact (hg.block P h.lt (fun e'=>hPE e'.symm)).trans h.blk
theorem ZmJ {w:World} {n i sn deep:Nat} {ev:Value} {TA SA EA:Option Addr} {ln tc sc ec en:Nat} (hn:n=en) (h:w.heap[P]?=some (.cells (PRow TA ln tc i (.slice SA sn sc) (.slice EA en ec) deep ev) 160 (0,0))):w.cell? ⟨P,3,none⟩=some (.slice EA n ec):=by
 subst hn
 exact Kaa _ _ 3 _ _ _ h
theorem Zn8 {Y:Nat→Prop} (hXY:∀ k,X k→Y k) {w w':World} (h:PR Y base P TA tc L s w SA sc EA ec ev) {e:Ex} {A':Option Addr} {cap':Nat} (Z:Nat→Prop) (hS:OwnSX (fun k=>X k∨Z k) w base SA sc s.ss) (ho:OwnEX (fun k=>X k∨¬ Z k) w' base A' cap' (s.es++[e])) (hg:w.grownBy w' (blk EA)) (hk:KT base w w') (he:s.es.length+1≤s.i):
  PR X base P TA tc L { s with es:=s.es++[e] } (w'.setCell ⟨P,3,none⟩ (.slice A' (s.es.length+1:Nat) cap')) SA sc A' cap' ev∧KT base w (w'.setCell ⟨P,3,none⟩ (.slice A' (s.es.length+1:Nat) cap')):=by
 have hblk:=pr_P h hg
 have hk2:KT base w' (w'.setCell ⟨P,3,none⟩ (.slice A' (s.es.length+1:Nat) cap')):=KT.set (t:=⟨P,3,none⟩) hblk h.hb rfl _ rfl (by show (3:Nat)≠2;decide)
 have hk3:=hk.trans hk2
 have hrow:(w'.setCell ⟨P,3,none⟩ (.slice A' (s.es.length+1:Nat) cap')).heap[P]?=_:=heap_setCell_same _ _ _ _ _ _ hblk
 rw [Zj8] at hrow
 have hkeep:∀ g cur,A'=some ⟨g,0,none⟩→w'.heap[g]?=some (.cells cur 90 (0,0))→(w'.setCell ⟨P,3,none⟩ (.slice A' (s.es.length+1:Nat) cap')).heap[g]?=some (.cells cur 90 (0,0)):=by
  intro g cur hA hc
  rw [Zap _ _ _ (fun e'=>by
   have e'':g=P:=e'
   subst e''
   rw [hblk] at hc
   injection hc with hc
   injection hc with _ hc _
   exact absurd hc (by decide))]
  exact hc
 refine ⟨⟨h.hb,?_,(h.re hXY).ownS.kt hk3,(ho.keep hk2 hkeep).re fun k hk=>.inl (.inl hk),h.err.kt hk3,h.toks.below (hk3.toBelow h.base_le),Zht h.ety h.etb hk3,h.etb,h.len,h.ii,h.dd,?_,h.sl,(h.re hXY).xk hk3,⟨Z,hS.kt hk3,ho.keep hk2 hkeep⟩⟩,hk3⟩
 ·rw [show (s.es++[e]).length=s.es.length+1 from by rw [List.length_append];rfl]
  exact hrow
 ·show (s.es++[e]).length≤s.i
  rw [List.length_append]
  exact he
theorem ZmK {Z:Nat→Prop} {b:Nat} {w:World} {A:Option Addr} {n c:Nat} {l:List Nat} (h:ArgsV X b w (.slice A n c) l):ArgsV (fun k=>X k∨¬ (Z k∨blk A=some k)) b w (.slice A n c) l:=by
 obtain ⟨A0,c0,e,h1,h2⟩:=h
 injection e with e1 e2 e3
 subst e1
 exact ⟨A,c0,by rw [e2,e3],h1,fun k hk hx=>hx.elim (h2 k hk) (fun h=>h (.inr hk))⟩
theorem ZmL (w:World) (e:Ex) (v:Value) (h:PR (XA X (vA v)) base P TA tc L s w SA sc EA ec ev) (hv:ArgsV X base w v e.args) (he:s.es.length+1≤s.i):
  Calls Tryz.prog 175 #[PP P,.agg #[.int .i64 e.kind,.string e.name,.int .u64 e.num,v,.int .i64 e.pos]] w fun r w'=>r=.returned (.int .i64 ((putP s e).2:Nat))∧PM X base P TA tc L (putP s e).1 w'∧KT base w w':=by
 obtain ⟨kd,nm,num,args,ps⟩:=e
 obtain ⟨A,c,rfl,_⟩:=id hv
 dsimp only at hv ⊢
 obtain ⟨w1,hw1⟩:∃ w1,w1=w.alloc (.cells #[.int .i64 kd,.string nm,.int .u64 num,.slice A args.length c,.int .i64 ps] 90):=⟨_,rfl⟩
 have hb1:Below w.heap.size w w1:=by rw [hw1];exact (Kai _ _).alloc (Kag _) _
 have h1:=h.below hb1
 have c5:=h1.c5
 have c3:=h1.c3
 have y3:=h1.free 3
 have k1:=KT.below (base:=base) hb1
 have hil:=h.ii
 have hll:=h.len
 have HV:=hid (hv.kt k1)
 have hrow:w1.heap[w.heap.size]?=some (.cells #[.int .i64 kd,.string nm,.int .u64 num,.slice A args.length c,.int .i64 ps] 90 (0,0)):=by rw [hw1];exact Kac _ _
 cases herr:s.err with
 | some x=>
  obtain ⟨te,xe,rfl⟩:=h.anErr (by rw [herr];simp)
  have HP:=hid (show putP s ⟨kd,nm,num,args,ps⟩=(s,0) from by unfold putP;rw [herr];rfl)
  have H1:=hid h1
  have K1:=hid k1
  rw [hw1] at c5
  have HW:=hid hw1
  clear h herr hw1 hb1 h1 c3 y3 k1 hv hrow
  go_enter Tryz.func175,Tryz.ntmps175
  go_wp2
  go_ret
  rw [←HW.out]
  exact ⟨by rw [HP.out];rfl,by rw [HP.out];exact (H1.out.re fun k hk=>.inl hk).pm,K1.out⟩
 | none=>
  obtain rfl:=h.noErr herr
  have HP:=hid (show putP s ⟨kd,nm,num,args,ps⟩=({ s with es:=s.es++[⟨kd,nm,num,args,ps⟩] },s.es.length) from by unfold putP;rw [herr];rfl)
  obtain ⟨Z,zS,zE⟩:=h1.sep
  have HZ:=hid (fun o:Obj=>And.intro ((zS.kt (base':=base) (w':=(w1.alloc o).drew) (KT.below ((Kai _ _).alloc (Kag _) o).drew)).re (Y:=fun k=>X k∨(Z k∨blk A=some k)) (fun k hk=>.inl (hk.elim (fun x=>.inl (.inl x)) (fun x=>x.elim .inr (fun y=>.inl (.inr y)))))) ((zE.keep (base':=base) (w':=(w1.alloc o).drew) (KT.below ((Kai _ _).alloc (Kag _) o).drew) (fun g cur _ hg=>(((Kai w1.heap.size w1).alloc (Kag _) o).drew.block g (Kab.1 hg).1).trans hg)).re (Y:=XA (fun k=>X k∨¬ (Z k∨blk A=some k)) A) (fun k hk=>.inl (hk.elim (fun x=>x.elim (fun y=>.inl (.inl y)) (fun y=>.inr (fun z=>y (.inl z)))) (fun x=>.inl (.inr x))))))
  have H1:=hid h1
  have K1:=hid k1
  have HR:=hid hrow
  rw [hw1] at c5
  have HW:=hid hw1
  have HE:=hid he
  obtain ⟨n,hn⟩:∃ n,n=s.es.length:=⟨_,rfl⟩
  rw [←hn] at c3
  have hn2:n+1≤1000000:=by omega
  have HN:=hid hn
  have r0:=Kaa w1 _ 0 _ _ _ hrow
  have r1:=Kaa w1 _ 1 _ _ _ hrow
  have r2:=Kaa w1 _ 2 _ _ _ hrow
  have r3:=Kaa w1 _ 3 _ _ _ hrow
  have r4:=Kaa w1 _ 4 _ _ _ hrow
  clear h herr hw1 hb1 h1 k1 hv hrow he hn zS zE
  go_enter Tryz.func175,Tryz.ntmps175
  go_wp2_with fail
  rw [←HW.out]
  clear c5
  have c3o:∀ o:Obj,(w1.alloc o).cell? ⟨P,3,none⟩=some (.slice EA n ec):=fun o=>(World.cell?_alloc_lt w1 o ⟨P,3,none⟩ H1.out.lt).trans c3
  have HGO:=hid (fun o:Obj=>H1.out.below (w':=(w1.alloc o).drew) ((Kai _ _).alloc (Kag _) o).drew)
  have HVO:=hid (fun o:Obj=>HV.out.kt (base:=base) (w':=(w1.alloc o).drew) (KT.below ((Kai _ _).alloc (Kag _) o).drew))
  have HKO:=hid (fun o:Obj=>(KT.below (base:=base) (w:=w1) (w':=(w1.alloc o).drew) ((Kai _ _).alloc (Kag _) o).drew))
  go_region_law (refine Zjv (X:=fun k=>X k∨¬ (Z k∨blk A=some k)) rfl (.tmp 15) (.tmp 17) rfl base EA ec s.es n HN.out.symm rfl (⟨kd,nm,num,args,ps⟩,.slice A args.length c) (HZ.out _).2 w1.heap.size rfl (Kac _ _) (ZmK (HVO.out _)) hn2 (by have:=H1.out.base_le;simp;omega) ?_;intro A' cap' w5 ho hg hk;have hPB:=pr_P (HGO.out _) hg;have q3:=ZmJ HN.out hPB;have z3:=Zan hPB 3;have HX:=hid (Zn8 (X:=X) (fun k hk=>.inl hk) (HGO.out _) (fun k=>Z k∨blk A=some k) (HZ.out _).1 ho hg hk HE.out);clear hPB ho hg hk)
  all_goals
   go_wp2
   go_ret
   have hn:=HN.out
   subst hn
   obtain ⟨x1,x2⟩:=HX.out
   exact ⟨by rw [HP.out];rfl,by rw [HP.out];exact x1.pm,K1.out.trans ((HKO.out _).trans x2)⟩
end
end Go.Proofs.YtghlnncfigkkaaaGreatDoor
namespace Go.Proofs.YtghlnncfigkkaaaGreatDoor
open Go.RowKit
attribute [local go_sem ↓] ZaO ZaP
def ZaR (X:Nat→Prop) (base P:Nat) (TA:Option Addr) (tc:Nat) (L:List Tok) (w:World) (r:PS × Nat) (e:Ending) (w':World):Prop:=e=.returned (.int .i64 (r.2:Nat))∧PM X base P TA tc L r.1 w'∧KT base w w'
structure AllW (base P:Nat) (TA:Option Addr) (tc:Nat) (L:List Tok) (f:Nat):Prop where
 expr:∀ {X:Nat→Prop} (w:World) (s:PS),PM X base P TA tc L s w→12*(L.length-s.i)+6≤f→Calls Tryz.prog 134 #[PP P] w (ZaR X base P TA tc L w (exprP L f s))
 sum:∀ {X:Nat→Prop} (w:World) (s:PS),PM X base P TA tc L s w→12*(L.length-s.i)+5≤f→Calls Tryz.prog 174 #[PP P] w (ZaR X base P TA tc L w (sumP L f s))
 prod:∀ {X:Nat→Prop} (w:World) (s:PS),PM X base P TA tc L s w→12*(L.length-s.i)+4≤f→Calls Tryz.prog 201 #[PP P] w (ZaR X base P TA tc L w (prodP L f s))
 sign:∀ {X:Nat→Prop} (w:World) (s:PS),PM X base P TA tc L s w→12*(L.length-s.i)+3≤f→Calls Tryz.prog 210 #[PP P] w (ZaR X base P TA tc L w (signP L f s))
 post:∀ {X:Nat→Prop} (w:World) (s:PS),PM X base P TA tc L s w→12*(L.length-s.i)+2≤f→Calls Tryz.prog 215 #[PP P] w (ZaR X base P TA tc L w (postP L f s))
 atom:∀ {X:Nat→Prop} (w:World) (s:PS),PM X base P TA tc L s w→12*(L.length-s.i)+1≤f→Calls Tryz.prog 218 #[PP P] w (ZaR X base P TA tc L w (atomP L f s))
section
variable {X:Nat→Prop} {base P tc:Nat} {TA:Option Addr} {L:List Tok} {s:PS}
theorem PM.el {w:World} (h:PM X base P TA tc L s w):s.es.length≤s.i∧s.i≤L.length∧L.length≤1000∧s.deep≤32:=by
 obtain ⟨_,_,_,_,_,h⟩:=h
 exact ⟨h.el,h.ii,h.len,h.dd⟩
theorem PM.below {w w':World} (h:PM X base P TA tc L s w) (hb:Below w.heap.size w w'):PM X base P TA tc L s w':=by
 obtain ⟨_,_,_,_,_,h⟩:=h
 exact (h.below hb).pm
theorem Za7 (w:World) (h:PM X base P TA tc L s w) {kd nm ps:Nat} {tx:ByteArray} (ht:nowP L s=⟨kd,tx,nm,ps⟩):
  Calls Tryz.prog 83 #[PP P] w fun e w'=>e=.returned (.agg #[.int .i64 kd,.string tx,.int .u64 nm,.int .i64 ps])∧PM X base P TA tc L s w'∧KT base w w'∧Below w.heap.size w w':=by
 obtain ⟨_,_,_,_,_,h⟩:=h
 exact (ZfQ w h ht).mono fun e w' ⟨he,hb⟩=>⟨he,(h.below hb).pm,KT.below hb,hb⟩
theorem is_pm (w:World) (h:PM X base P TA tc L s w) (t:ByteArray) {b:Bool} (hq:isP L s t=b):
  Calls Tryz.prog 173 #[PP P,.string t] w fun e w'=>e=.returned (.bool b)∧PM X base P TA tc L s w'∧KT base w w':=by
 obtain ⟨_,_,_,_,_,h⟩:=h
 subst hq
 exact (ZlM w h t).mono fun e w' ⟨he,hb⟩=>⟨he,(h.below hb).pm,KT.below hb⟩
theorem Zbf (w:World) (h:PM X base P TA tc L s w) (t:ByteArray) (hq:isP L s t=true):
  Calls Tryz.prog 129 #[PP P,.string t] w fun e w'=>e=.returned (.bool true)∧PM X base P TA tc L (advP s) w'∧KT base w w':=by
 obtain ⟨_,_,_,_,_,h⟩:=h
 have:=Zfe w h t
 rw [hq] at this
 exact this
theorem ZaT (w:World) (h:PM X base P TA tc L s w) (t:ByteArray) (hq:isP L s t=false):
  Calls Tryz.prog 129 #[PP P,.string t] w fun e w'=>e=.returned (.bool false)∧PM X base P TA tc L s w'∧KT base w w':=by
 obtain ⟨_,_,_,_,_,h⟩:=h
 have:=Zfe w h t
 rw [hq] at this
 exact this
theorem Zbp (w:World) (h:PM X base P TA tc L s w) (t:ByteArray):
  Calls Tryz.prog 133 #[PP P,.string t] w fun e w'=>(∃ v,e=.returned v)∧PM X base P TA tc L (wantP L s t) w'∧KT base w w':=by
 obtain ⟨_,_,_,_,_,h⟩:=h
 exact Zll w h t
theorem Zg6 (w:World) (h:PM X base P TA tc L s w) (c:Nat):
  Calls Tryz.prog 128 #[PP P,.int .i64 c] w fun e w'=>(∃ v,e=.returned v)∧PM X base P TA tc L (failP L s c) w'∧KT base w w':=by
 obtain ⟨_,_,_,_,_,h⟩:=h
 exact Zb5 w h c
theorem ZcW (w:World) (h:PM X base P TA tc L s w):
  Calls Tryz.prog 130 #[PP P] w (ZaR X base P TA tc L w (Zaw L s)):=by
 obtain ⟨_,_,_,_,_,h⟩:=h
 exact Zg5 w h
theorem Zcy (w:World) (e:Ex) (v:Value) (h:PM (XA X (vA v)) base P TA tc L s w) (hv:ArgsV X base w v e.args) (he:s.es.length+1≤s.i):
  Calls Tryz.prog 175 #[PP P,.agg #[.int .i64 e.kind,.string e.name,.int .u64 e.num,v,.int .i64 e.pos]] w (ZaR X base P TA tc L w (putP s e)):=by
 obtain ⟨_,_,_,_,_,h⟩:=h
 exact ZmL w e v h hv he
theorem Zai (w:World) (o:Obj):Below w.heap.size w (w.alloc o):=(Kai _ _).alloc (Kag _) o
def curI (P:Nat) (w:World):Nat:=match w.cell? ⟨P,1,none⟩ with | some v=>(intOf v).toNat | none=>0
theorem PM.cur {w:World} (h:PM X base P TA tc L s w):curI P w=s.i:=by
 obtain ⟨_,_,_,_,_,h⟩:=h
 unfold curI
 rw [h.c1]
 simp [intOf]
theorem Zjw (f:Nat) (ih:∀ f',f'≤f→AllW base P TA tc L f') (w:World) (s:PS) (h:PM X base P TA tc L s w) (hf:12*(L.length-s.i)+6≤f+1):
  Calls Tryz.prog 134 #[PP P] w (ZaR X base P TA tc L w (exprP L (f+1) s)):=by
 have HS:=hid ((ih f (Kag _)).sum w s h (by omega))
 have g1:=(allG L f).sum s
 have hel:=h.el
 obtain ⟨sa,va,hA⟩:∃ sa va,sumP L f s=(sa,va):=⟨_,_,rfl⟩
 rw [hA] at HS g1
 obtain ⟨kd,tx,nm,ps,hnow⟩:∃ kd tx nm ps,nowP L sa=⟨kd,tx,nm,ps⟩:=⟨_,_,_,_,rfl⟩
 have HNOW:=hid hnow
 have IH:=hid ih
 have HG1:=hid g1
 cases hq:isP L sa tLess with
 | false=>
  have HR:=hid (show exprP L (f+1) s=(sa,va) from by rw [exprP,hA];simp only [hq];rfl)
  have HQ:=hid hq
  clear ih hA hnow hq h g1
  go_enter Tryz.func134,Tryz.ntmps134
  go_wp2_with fail
  refine HS.out.mono ?_
  rintro e w1 ⟨rfl,h1,k1⟩
  have H1:=hid h1
  have K1:=hid k1
  clear h1 k1
  go_wp2_with fail
  refine (Za7 w1 H1.out HNOW.out).mono ?_
  rintro e w2 ⟨rfl,h2,k2,_⟩
  have H2:=hid h2
  have K2:=hid (K1.out.trans k2)
  clear h2 k2
  go_wp2_with fail
  refine (ZaT w2 H2.out tLess HQ.out).mono ?_
  rintro e w3 ⟨rfl,h3,k3⟩
  have H3:=hid h3
  have K3:=hid (K2.out.trans k3)
  clear h3 k3
  go_wp2
  go_ret
  exact ⟨by rw [HR.out];rfl,by rw [HR.out];exact H3.out,K3.out⟩
 | true=>
  have hlt:=ZaD hq
  have hi1:s.i≤sa.i:=g1.hi
  have HB:=hid (fun w' (h':PM X base P TA tc L _ w')=>(ih f (Kag _)).sum w' (advP sa) h' (by show 12*(L.length-(sa.i+1))+5≤f;omega))
  have g2:=(allG L f).sum (advP sa)
  obtain ⟨sb,vb,hB⟩:∃ sb vb,sumP L f (advP sa)=(sb,vb):=⟨_,_,rfl⟩
  rw [hB] at HB g2
  have hbig:sb.es.length+1≤sb.i:=by
   have h1:sa.es.length+s.i+0≤s.es.length+sa.i:=g1.he
   have h2:=g2.he
   have h3:=g2.hi
   have h4:(advP sa).i=sa.i+1:=rfl
   have h5:(advP sa).es=sa.es:=rfl
   simp only [h4,h5] at h2 h3
   omega
  have HR:=hid (show exprP L (f+1) s=putP sb ⟨8,noB,0,[va,vb],ps⟩ from by rw [exprP,hA];simp only [hq,hB,hnow];rfl)
  have HQ:=hid hq
  have HBIG:=hid hbig
  clear ih hA hnow hq h g1 g2 hB hbig hlt hi1
  go_enter Tryz.func134,Tryz.ntmps134
  go_wp2_with fail
  refine HS.out.mono ?_
  rintro e w1 ⟨rfl,h1,k1⟩
  have H1:=hid h1
  have K1:=hid k1
  clear h1 k1
  go_wp2_with fail
  refine (Za7 w1 H1.out HNOW.out).mono ?_
  rintro e w2 ⟨rfl,h2,k2,_⟩
  have H2:=hid h2
  have K2:=hid (K1.out.trans k2)
  clear h2 k2
  go_wp2_with fail
  refine (Zbf w2 H2.out tLess HQ.out).mono ?_
  rintro e w3 ⟨rfl,h3,k3⟩
  have H3:=hid h3
  have K3:=hid (K2.out.trans k3)
  clear h3 k3
  go_wp2_with fail
  refine (HB.out w3 H3.out).mono ?_
  rintro e w4 ⟨rfl,h4,k4⟩
  have H4:=hid h4
  have K4:=hid (K3.out.trans k4)
  clear h4 k4
  go_wp2_with fail
  refine (Zcy _ ⟨8,noB,0,[va,vb],ps⟩ _ (Zcj H4.out _) (args2 H4.out va vb) HBIG.out).mono ?_
  rintro e w5 ⟨rfl,h5,k5⟩
  have H5:=hid h5
  have K5:=hid ((K4.out.trans (KT.below (Zai w4 _))).trans k5)
  clear h5 k5
  go_wp2
  go_ret
  exact ⟨by rw [HR.out];rfl,by rw [HR.out];exact H5.out,K5.out⟩
def Zn9 (X:Nat→Prop) (base P:Nat) (TA:Option Addr) (tc:Nat) (L:List Tok) (f:Nat) (w:World) (R:PS × Nat) (av:Value) (wr:World):Prop:=
 ∃ (f':Nat) (s':PS) (a':Nat),f'≤f∧R=ZaH L f' s' a'∧av=.int .i64 a'∧PM X base P TA tc L s' wr∧KT base w wr∧12*(L.length-s'.i)+1≤f'
theorem Zlo (f:Nat) (ih:∀ f',f'≤f→AllW base P TA tc L f') (w:World) (s:PS) (h:PM X base P TA tc L s w) (hf:12*(L.length-s.i)+5≤f+1):
  Calls Tryz.prog 174 #[PP P] w (ZaR X base P TA tc L w (sumP L (f+1) s)):=by
 have HS:=hid ((ih f (Kag _)).prod w s h (by omega))
 have g1:=(allG L f).prod s
 obtain ⟨sa,va,hA⟩:∃ sa va,prodP L f s=(sa,va):=⟨_,_,rfl⟩
 rw [hA] at HS g1
 obtain ⟨R,hR⟩:∃ R,R=ZaH L f sa va:=⟨_,rfl⟩
 have hRR:sumP L (f+1) s=R:=by rw [sumP,hA,hR]
 rw [hRR]
 have HR:=hid hR
 have hi1:s.i≤sa.i:=g1.hi
 have hla:=h.el
 have IH:=hid ih
 have hfa:12*(L.length-sa.i)+1≤f:=by omega
 have HFA:=hid hfa
 clear ih hA hR hRR h g1 hi1 hfa
 go_enter Tryz.func174,Tryz.ntmps174
 go_wp2_with fail
 refine HS.out.mono ?_
 rintro e w1 ⟨rfl,h1,k1⟩
 have H1:=hid h1
 have K1:=hid k1
 clear h1 k1
 go_wp2
 go_loopw [3] (fun av wr=>Zn9 X base P TA tc L f w R av wr) (fun av wr=>L.length-curI P wr)
 case atStart=>exact ⟨f,sa,va,Kag _,HR.out,rfl,H1.out,K1.out,HFA.out⟩
 case round=>
  obtain ⟨f',s',a',hf',hr,rfl,hp,hk,hn⟩:=hrel
  obtain ⟨f',rfl⟩:∃ g,f'=g+1:=⟨f'-1,by omega⟩
  have hcur:=hid hp.cur
  obtain ⟨he1,he2,he3,_⟩:=hp.el
  obtain ⟨kd,tx,nm,ps,hnow⟩:∃ kd tx nm ps,nowP L s'=⟨kd,tx,nm,ps⟩:=⟨_,_,_,_,rfl⟩
  have HNOW:=hid hnow
  have HP:=hid hp
  have HK:=hid hk
  have HRR:=hid hr
  clear hp hk hnow hr
  cases hq0:isP L s' tPlus with
  | true=>
   have hlt:=ZaD hq0
   have HB:=hid (fun w' (h':PM X base P TA tc L _ w')=>(IH.out f' (by omega)).prod w' (advP s') h' (by show 12*(L.length-(s'.i+1))+4≤f';omega))
   have g2:=(allG L f').prod (advP s')
   obtain ⟨sb,vb,hB⟩:∃ sb vb,prodP L f' (advP s')=(sb,vb):=⟨_,_,rfl⟩
   rw [hB] at HB g2
   have h2:=g2.he
   have h3:=g2.hi
   have h4:(advP s').i=s'.i+1:=rfl
   have h5:(advP s').es=s'.es:=rfl
   simp only [h4,h5] at h2 h3
   have hbig:sb.es.length+1≤sb.i:=by omega
   obtain ⟨sc,vc,hC⟩:∃ sc vc,putP sb ⟨4,noB,0,[a',vb],ps⟩=(sc,vc):=⟨_,_,rfl⟩
   have hci:sc.i=sb.i:=by
    have e:sc=(putP sb ⟨4,noB,0,[a',vb],ps⟩).1:=by rw [hC]
    rw [e];unfold putP;split <;> rfl
   have HX:=hid (show R=ZaH L f' sc vc from by rw [HRR.out,ZaH];simp only [hq0,hB,HNOW.out,hC];rfl)
   have HQ:=hid hq0
   have HBIG:=hid hbig
   have HC:=hid hC
   clear h2 h4 h5 g2 hB hbig hC hq0
   go_wp2_with fail
   refine (Za7 wr HP.out HNOW.out).mono ?_
   rintro e w2 ⟨rfl,h2,k2,_⟩
   have H2:=hid h2
   have K2:=hid (HK.out.trans k2)
   clear h2 k2
   go_wp2_with fail
   refine (Zbf _ H2.out tPlus HQ.out).mono ?_
   rintro e w3 ⟨rfl,h3',k3⟩
   have H3:=hid h3'
   have K3:=hid (K2.out.trans k3)
   clear h3' k3
   go_wp2_with fail
   refine (HB.out w3 H3.out).mono ?_
   rintro e w4 ⟨rfl,h4,k4⟩
   have H4:=hid h4
   have K4:=hid (K3.out.trans k4)
   clear h4 k4
   go_wp2_with fail
   have HPU:=Zcy _ ⟨4,noB,0,[a',vb],ps⟩ _ (Zcj H4.out _) (args2 H4.out a' vb) HBIG.out
   rw [HC.out] at HPU
   refine HPU.mono ?_
   clear HPU
   rintro e w5 ⟨rfl,h5,k5⟩
   have H5:=hid h5
   have K5:=hid ((K4.out.trans (KT.below (Zai w4 _))).trans k5)
   clear h5 k5
   go_wp2
   refine ⟨⟨f',sc,vc,by omega,HX.out,rfl,H5.out,K5.out,by rw [hci];omega⟩,?_⟩
   have e1:=H5.out.cur
   have e2:=hcur.out
   have e3:=H5.out.el
   simp only [e1,e2]
   omega
  | false=>
   cases hq1:isP L s' ZcX with
   | true=>
    have hlt:=ZaD hq1
    have HB:=hid (fun w' (h':PM X base P TA tc L _ w')=>(IH.out f' (by omega)).prod w' (advP s') h' (by show 12*(L.length-(s'.i+1))+4≤f';omega))
    have g2:=(allG L f').prod (advP s')
    obtain ⟨sb,vb,hB⟩:∃ sb vb,prodP L f' (advP s')=(sb,vb):=⟨_,_,rfl⟩
    rw [hB] at HB g2
    have h2:=g2.he
    have h3:=g2.hi
    have h4:(advP s').i=s'.i+1:=rfl
    have h5:(advP s').es=s'.es:=rfl
    simp only [h4,h5] at h2 h3
    have hbig:sb.es.length+1≤sb.i:=by omega
    obtain ⟨sc,vc,hC⟩:∃ sc vc,putP sb ⟨5,noB,0,[a',vb],ps⟩=(sc,vc):=⟨_,_,rfl⟩
    have hci:sc.i=sb.i:=by
     have e:sc=(putP sb ⟨5,noB,0,[a',vb],ps⟩).1:=by rw [hC]
     rw [e];unfold putP;split <;> rfl
    have HX:=hid (show R=ZaH L f' sc vc from by rw [HRR.out,ZaH];simp only [hq0,hq1,hB,HNOW.out,hC];rfl)
    have HQ:=hid hq1
    have HBIG:=hid hbig
    have HC:=hid hC
    have HQ0:=hid hq0
    clear h2 h4 h5 g2 hB hbig hC hq0 hq1
    go_wp2_with fail
    refine (Za7 wr HP.out HNOW.out).mono ?_
    rintro e w2 ⟨rfl,h2,k2,_⟩
    have H2:=hid h2
    have K2:=hid (HK.out.trans k2)
    clear h2 k2
    go_wp2_with fail
    refine (ZaT _ H2.out tPlus HQ0.out).mono ?_
    rintro e w2 ⟨rfl,h2,k2⟩
    replace K2:=hid (K2.out.trans k2)
    replace H2:=hid h2
    clear h2 k2
    go_wp2_with fail
    refine (Zbf _ H2.out ZcX HQ.out).mono ?_
    rintro e w3 ⟨rfl,h3',k3⟩
    have H3:=hid h3'
    have K3:=hid (K2.out.trans k3)
    clear h3' k3
    go_wp2_with fail
    refine (HB.out w3 H3.out).mono ?_
    rintro e w4 ⟨rfl,h4,k4⟩
    have H4:=hid h4
    have K4:=hid (K3.out.trans k4)
    clear h4 k4
    go_wp2_with fail
    have HPU:=Zcy _ ⟨5,noB,0,[a',vb],ps⟩ _ (Zcj H4.out _) (args2 H4.out a' vb) HBIG.out
    rw [HC.out] at HPU
    refine HPU.mono ?_
    clear HPU
    rintro e w5 ⟨rfl,h5,k5⟩
    have H5:=hid h5
    have K5:=hid ((K4.out.trans (KT.below (Zai w4 _))).trans k5)
    clear h5 k5
    go_wp2
    refine ⟨⟨f',sc,vc,by omega,HX.out,rfl,H5.out,K5.out,by rw [hci];omega⟩,?_⟩
    have e1:=H5.out.cur
    have e2:=hcur.out
    have e3:=H5.out.el
    simp only [e1,e2]
    omega
   | false=>
    have HX:=hid (show R=(s',a') from by rw [HRR.out,ZaH];simp only [hq0,hq1];rfl)
    have HQ0:=hid hq0
    have HQ1:=hid hq1
    clear hq0 hq1
    go_wp2_with fail
    refine (Za7 wr HP.out HNOW.out).mono ?_
    rintro e w2 ⟨rfl,h2,k2,_⟩
    have H2:=hid h2
    have K2:=hid (HK.out.trans k2)
    clear h2 k2
    go_wp2_with fail
    refine (ZaT _ H2.out tPlus HQ0.out).mono ?_
    rintro e w2 ⟨rfl,h2,k2⟩
    replace K2:=hid (K2.out.trans k2)
    replace H2:=hid h2
    clear h2 k2
    go_wp2_with fail
    refine (ZaT _ H2.out ZcX HQ1.out).mono ?_
    rintro e w2 ⟨rfl,h2,k2⟩
    replace K2:=hid (K2.out.trans k2)
    replace H2:=hid h2
    clear h2 k2
    go_wp2
    go_ret
    rw [HX.out]
    exact ⟨rfl,H2.out,K2.out⟩
def ZmM (X:Nat→Prop) (base P:Nat) (TA:Option Addr) (tc:Nat) (L:List Tok) (f:Nat) (w:World) (R:PS × Nat) (av:Value) (wr:World):Prop:=
 ∃ (f':Nat) (s':PS) (a':Nat),f'≤f∧R=Za6 L f' s' a'∧av=.int .i64 a'∧PM X base P TA tc L s' wr∧KT base w wr∧12*(L.length-s'.i)+1≤f'
theorem Zjx (f:Nat) (ih:∀ f',f'≤f→AllW base P TA tc L f') (w:World) (s:PS) (h:PM X base P TA tc L s w) (hf:12*(L.length-s.i)+4≤f+1):
  Calls Tryz.prog 201 #[PP P] w (ZaR X base P TA tc L w (prodP L (f+1) s)):=by
 have HS:=hid ((ih f (Kag _)).sign w s h (by omega))
 have g1:=(allG L f).sign s
 obtain ⟨sa,va,hA⟩:∃ sa va,signP L f s=(sa,va):=⟨_,_,rfl⟩
 rw [hA] at HS g1
 obtain ⟨R,hR⟩:∃ R,R=Za6 L f sa va:=⟨_,rfl⟩
 have hRR:prodP L (f+1) s=R:=by rw [prodP,hA,hR]
 rw [hRR]
 have HR:=hid hR
 have hi1:s.i≤sa.i:=g1.hi
 have hla:=h.el
 have IH:=hid ih
 have hfa:12*(L.length-sa.i)+1≤f:=by omega
 have HFA:=hid hfa
 clear ih hA hR hRR h g1 hi1 hfa
 go_enter Tryz.func201,Tryz.ntmps201
 go_wp2_with fail
 refine HS.out.mono ?_
 rintro e w1 ⟨rfl,h1,k1⟩
 have H1:=hid h1
 have K1:=hid k1
 clear h1 k1
 go_wp2
 go_loopw [3] (fun av wr=>ZmM X base P TA tc L f w R av wr) (fun av wr=>L.length-curI P wr)
 case atStart=>exact ⟨f,sa,va,Kag _,HR.out,rfl,H1.out,K1.out,HFA.out⟩
 case round=>
  obtain ⟨f',s',a',hf',hr,rfl,hp,hk,hn⟩:=hrel
  obtain ⟨f',rfl⟩:∃ g,f'=g+1:=⟨f'-1,by omega⟩
  have hcur:=hid hp.cur
  obtain ⟨he1,he2,he3,_⟩:=hp.el
  obtain ⟨kd,tx,nm,ps,hnow⟩:∃ kd tx nm ps,nowP L s'=⟨kd,tx,nm,ps⟩:=⟨_,_,_,_,rfl⟩
  have HNOW:=hid hnow
  have HP:=hid hp
  have HK:=hid hk
  have HRR:=hid hr
  clear hp hk hnow hr
  cases hq0:isP L s' tStar with
  | true=>
   have hlt:=ZaD hq0
   have HB:=hid (fun w' (h':PM X base P TA tc L _ w')=>(IH.out f' (by omega)).sign w' (advP s') h' (by show 12*(L.length-(s'.i+1))+3≤f';omega))
   have g2:=(allG L f').sign (advP s')
   obtain ⟨sb,vb,hB⟩:∃ sb vb,signP L f' (advP s')=(sb,vb):=⟨_,_,rfl⟩
   rw [hB] at HB g2
   have h2:=g2.he
   have h3:=g2.hi
   have h4:(advP s').i=s'.i+1:=rfl
   have h5:(advP s').es=s'.es:=rfl
   simp only [h4,h5] at h2 h3
   have hbig:sb.es.length+1≤sb.i:=by omega
   obtain ⟨sc,vc,hC⟩:∃ sc vc,putP sb ⟨6,noB,0,[a',vb],ps⟩=(sc,vc):=⟨_,_,rfl⟩
   have hci:sc.i=sb.i:=by
    have e:sc=(putP sb ⟨6,noB,0,[a',vb],ps⟩).1:=by rw [hC]
    rw [e];unfold putP;split <;> rfl
   have HX:=hid (show R=Za6 L f' sc vc from by rw [HRR.out,Za6];simp only [hq0,hB,HNOW.out,hC];rfl)
   have HQ:=hid hq0
   have HBIG:=hid hbig
   have HC:=hid hC
   clear h2 h4 h5 g2 hB hbig hC hq0
   go_wp2_with fail
   refine (Za7 wr HP.out HNOW.out).mono ?_
   rintro e w2 ⟨rfl,h2,k2,_⟩
   have H2:=hid h2
   have K2:=hid (HK.out.trans k2)
   clear h2 k2
   go_wp2_with fail
   refine (Zbf _ H2.out tStar HQ.out).mono ?_
   rintro e w3 ⟨rfl,h3',k3⟩
   have H3:=hid h3'
   have K3:=hid (K2.out.trans k3)
   clear h3' k3
   go_wp2_with fail
   refine (HB.out w3 H3.out).mono ?_
   rintro e w4 ⟨rfl,h4,k4⟩
   have H4:=hid h4
   have K4:=hid (K3.out.trans k4)
   clear h4 k4
   go_wp2_with fail
   have HPU:=Zcy _ ⟨6,noB,0,[a',vb],ps⟩ _ (Zcj H4.out _) (args2 H4.out a' vb) HBIG.out
   rw [HC.out] at HPU
   refine HPU.mono ?_
   clear HPU
   rintro e w5 ⟨rfl,h5,k5⟩
   have H5:=hid h5
   have K5:=hid ((K4.out.trans (KT.below (Zai w4 _))).trans k5)
   clear h5 k5
   go_wp2
   refine ⟨⟨f',sc,vc,by omega,HX.out,rfl,H5.out,K5.out,by rw [hci];omega⟩,?_⟩
   have e1:=H5.out.cur
   have e2:=hcur.out
   have e3:=H5.out.el
   simp only [e1,e2]
   omega
  | false=>
   cases hq1:isP L s' tAt with
   | true=>
    have hlt:=ZaD hq1
    have HB:=hid (fun w' (h':PM X base P TA tc L _ w')=>(IH.out f' (by omega)).sign w' (advP s') h' (by show 12*(L.length-(s'.i+1))+3≤f';omega))
    have g2:=(allG L f').sign (advP s')
    obtain ⟨sb,vb,hB⟩:∃ sb vb,signP L f' (advP s')=(sb,vb):=⟨_,_,rfl⟩
    rw [hB] at HB g2
    have h2:=g2.he
    have h3:=g2.hi
    have h4:(advP s').i=s'.i+1:=rfl
    have h5:(advP s').es=s'.es:=rfl
    simp only [h4,h5] at h2 h3
    have hbig:sb.es.length+1≤sb.i:=by omega
    obtain ⟨sc,vc,hC⟩:∃ sc vc,putP sb ⟨7,noB,0,[a',vb],ps⟩=(sc,vc):=⟨_,_,rfl⟩
    have hci:sc.i=sb.i:=by
     have e:sc=(putP sb ⟨7,noB,0,[a',vb],ps⟩).1:=by rw [hC]
     rw [e];unfold putP;split <;> rfl
    have HX:=hid (show R=Za6 L f' sc vc from by rw [HRR.out,Za6];simp only [hq0,hq1,hB,HNOW.out,hC];rfl)
    have HQ:=hid hq1
    have HBIG:=hid hbig
    have HC:=hid hC
    have HQ0:=hid hq0
    clear h2 h4 h5 g2 hB hbig hC hq0 hq1
    go_wp2_with fail
    refine (Za7 wr HP.out HNOW.out).mono ?_
    rintro e w2 ⟨rfl,h2,k2,_⟩
    have H2:=hid h2
    have K2:=hid (HK.out.trans k2)
    clear h2 k2
    go_wp2_with fail
    refine (ZaT _ H2.out tStar HQ0.out).mono ?_
    rintro e w2 ⟨rfl,h2,k2⟩
    replace K2:=hid (K2.out.trans k2)
    replace H2:=hid h2
    clear h2 k2
    go_wp2_with fail
    refine (Zbf _ H2.out tAt HQ.out).mono ?_
    rintro e w3 ⟨rfl,h3',k3⟩
    have H3:=hid h3'
    have K3:=hid (K2.out.trans k3)
    clear h3' k3
    go_wp2_with fail
    refine (HB.out w3 H3.out).mono ?_
    rintro e w4 ⟨rfl,h4,k4⟩
    have H4:=hid h4
    have K4:=hid (K3.out.trans k4)
    clear h4 k4
    go_wp2_with fail
    have HPU:=Zcy _ ⟨7,noB,0,[a',vb],ps⟩ _ (Zcj H4.out _) (args2 H4.out a' vb) HBIG.out
    rw [HC.out] at HPU
    refine HPU.mono ?_
    clear HPU
    rintro e w5 ⟨rfl,h5,k5⟩
    have H5:=hid h5
    have K5:=hid ((K4.out.trans (KT.below (Zai w4 _))).trans k5)
    clear h5 k5
    go_wp2
    refine ⟨⟨f',sc,vc,by omega,HX.out,rfl,H5.out,K5.out,by rw [hci];omega⟩,?_⟩
    have e1:=H5.out.cur
    have e2:=hcur.out
    have e3:=H5.out.el
    simp only [e1,e2]
    omega
   | false=>
    have HX:=hid (show R=(s',a') from by rw [HRR.out,Za6];simp only [hq0,hq1];rfl)
    have HQ0:=hid hq0
    have HQ1:=hid hq1
    clear hq0 hq1
    go_wp2_with fail
    refine (Za7 wr HP.out HNOW.out).mono ?_
    rintro e w2 ⟨rfl,h2,k2,_⟩
    have H2:=hid h2
    have K2:=hid (HK.out.trans k2)
    clear h2 k2
    go_wp2_with fail
    refine (ZaT _ H2.out tStar HQ0.out).mono ?_
    rintro e w2 ⟨rfl,h2,k2⟩
    replace K2:=hid (K2.out.trans k2)
    replace H2:=hid h2
    clear h2 k2
    go_wp2_with fail
    refine (ZaT _ H2.out tAt HQ1.out).mono ?_
    rintro e w2 ⟨rfl,h2,k2⟩
    replace K2:=hid (K2.out.trans k2)
    replace H2:=hid h2
    clear h2 k2
    go_wp2
    go_ret
    rw [HX.out]
    exact ⟨rfl,H2.out,K2.out⟩
end
end Go.Proofs.YtghlnncfigkkaaaGreatDoor
namespace Go.Proofs.YtghlnncfigkkaaaGreatDoor
open Go.RowKit
attribute [local go_sem ↓] ZaO ZaP
theorem ZaY (t:Tok):callP t=(0,0)∨callP t=(10,1)∨callP t=(11,1)∨callP t=(12,1)∨callP t=(13,2)∨callP t=(14,3):=by
 unfold callP
 split
 ·simp
 split
 ·simp
 split
 ·simp
 split
 ·simp
 split
 ·simp
 split <;> simp
theorem sRelu:tRelu.toList=[114,101,108,117]:=by unfold tRelu;rw [ByteArray.toList_eq]
theorem sSum:tSum.toList=[115,117,109]:=by unfold tSum;rw [ByteArray.toList_eq]
theorem Zjy:tArgmax.toList=[97,114,103,109,97,120]:=by unfold tArgmax;rw [ByteArray.toList_eq]
theorem sMax:tMax.toList=[109,97,120]:=by unfold tMax;rw [ByteArray.toList_eq]
theorem sMux:tMux.toList=[109,117,120]:=by unfold tMux;rw [ByteArray.toList_eq]
theorem Zb6 (t:Tok) (w:World):
  Calls Tryz.prog 223 #[.agg #[.int .i64 t.kind,.string t.text,.int .u64 t.num,.int .i64 t.pos]] w fun e w'=>e=.returned (.tuple #[.int .i64 ((callP t).1:Nat),.int .i64 ((callP t).2:Nat)])∧Below w.heap.size w w':=by
 obtain ⟨kd,tx,nm,ps⟩:=t
 obtain ⟨k,hk⟩:∃ k,k=callP ⟨kd,tx,nm,ps⟩:=⟨_,rfl⟩
 rw [←hk]
 have HK:=hid hk
 clear hk
 have e1:((kd:Int) != 4)=(kd != 4):=by rw [Bool.eq_iff_iff,bne_iff_ne,bne_iff_ne];omega
 go_enter Tryz.func223,Tryz.ntmps223
 go_wp2
 all_goals
  go_ret2
  exact ⟨by rw [HK.out];unfold callP;simp [sRelu,sSum,Zjy,sMax,sMux, *],Za3 (Kai _ _) _⟩
end Go.Proofs.YtghlnncfigkkaaaGreatDoor
namespace Go.Proofs.YtghlnncfigkkaaaGreatDoor
open Go.RowKit
attribute [local go_sem ↓] ZaO ZaP
section
variable {X:Nat→Prop} {base P tc:Nat} {TA:Option Addr} {L:List Tok} {s:PS}
theorem Zdn (w:World) (h:PM X base P TA tc L s w) {b:Bool} {s':PS} (hq:sinkP L s=(s',b)):
  Calls Tryz.prog 216 #[PP P] w fun e w'=>e=.returned (.bool b)∧PM X base P TA tc L s' w'∧KT base w w':=by
 obtain ⟨_,_,_,_,_,h⟩:=h
 have:=Zlm w h
 rw [hq] at this
 exact this
def ZmN (X:Nat→Prop) (base P:Nat) (TA:Option Addr) (tc:Nat) (L:List Tok) (f:Nat) (w:World) (R:PS × Nat) (av:Value) (wr:World):Prop:=
 ∃ (f':Nat) (s':PS) (a':Nat),f'≤f∧R=ZaM L f' s' a'∧av=.int .i64 a'∧PM X base P TA tc L s' wr∧KT base w wr∧12*(L.length-s'.i)+1≤f'
theorem Zjz (f:Nat) (ih:∀ f',f'≤f→AllW base P TA tc L f') (w:World) (s:PS) (h:PM X base P TA tc L s w) (hf:12*(L.length-s.i)+2≤f+1):
  Calls Tryz.prog 215 #[PP P] w (ZaR X base P TA tc L w (postP L (f+1) s)):=by
 have HS:=hid ((ih f (Kag _)).atom w s h (by omega))
 have g1:=(allG L f).atom s
 obtain ⟨sa,va,hA⟩:∃ sa va,atomP L f s=(sa,va):=⟨_,_,rfl⟩
 rw [hA] at HS g1
 obtain ⟨R,hR⟩:∃ R,R=ZaM L f sa va:=⟨_,rfl⟩
 have hRR:postP L (f+1) s=R:=by rw [postP,hA,hR]
 rw [hRR]
 have HR:=hid hR
 have hi1:s.i≤sa.i:=g1.hi
 have hla:=h.el
 have HFA:=hid (show 12*(L.length-sa.i)+1≤f by omega)
 clear ih hA hR hRR h g1 hi1
 go_enter Tryz.func215,Tryz.ntmps215
 go_wp2_with fail
 refine HS.out.mono ?_
 rintro e w1 ⟨rfl,h1,k1⟩
 have H1:=hid h1
 have K1:=hid k1
 clear h1 k1
 go_wp2
 go_loopw [3] (fun av wr=>ZmN X base P TA tc L f w R av wr) (fun av wr=>L.length-curI P wr)
 case atStart=>exact ⟨f,sa,va,Kag _,HR.out,rfl,H1.out,K1.out,HFA.out⟩
 case round=>
  obtain ⟨f',s',a',hf',hr,rfl,hp,hk,hn⟩:=hrel
  obtain ⟨f',rfl⟩:∃ g,f'=g+1:=⟨f'-1,by omega⟩
  have hcur:=hid hp.cur
  obtain ⟨he1,he2,he3,_⟩:=hp.el
  obtain ⟨kd,tx,nm,ps,hnow⟩:∃ kd tx nm ps,nowP L s'=⟨kd,tx,nm,ps⟩:=⟨_,_,_,_,rfl⟩
  have HNOW:=hid hnow
  have HP:=hid hp
  have HK:=hid hk
  have HRR:=hid hr
  clear hp hk hnow hr
  cases hq0:isP L s' Zhq with
  | true=>
   have hlt:=ZaD hq0
   have g2:=G.number (L:=L) (advP s')
   obtain ⟨sb,vb,hB⟩:∃ sb vb,Zaw L (advP s')=(sb,vb):=⟨_,_,rfl⟩
   rw [hB] at g2
   have h2:=g2.he
   have h3:=g2.hi
   have h4:(advP s').i=s'.i+1:=rfl
   have h5:(advP s').es=s'.es:=rfl
   simp only [h4,h5] at h2 h3
   have hbig:sb.es.length+1≤sb.i:=by omega
   have hvb:vb≤1048576:=by
    have e:vb=(Zaw L (advP s')).2:=by rw [hB]
    rw [e]
    unfold Zaw
    split
    ·exact Nat.zero_le _
    ·rename_i hh
     simp only [Bool.or_eq_true,not_or,decide_eq_true_eq] at hh
     show (nowP L (advP s')).num≤1048576
     omega
   obtain ⟨sc,vc,hC⟩:∃ sc vc,putP sb ⟨9,noB,vb,[a'],ps⟩=(sc,vc):=⟨_,_,rfl⟩
   have hci:sc.i=sb.i:=by
    have e:sc=(putP sb ⟨9,noB,vb,[a'],ps⟩).1:=by rw [hC]
    rw [e];unfold putP;split <;> rfl
   have HX:=hid (show R=ZaM L f' sc vc from by rw [HRR.out,ZaM];simp only [hq0,hB,HNOW.out,hC];rfl)
   have HQ:=hid hq0
   have HB:=hid hB
   have HBIG:=hid hbig
   have HC:=hid hC
   have cv:IntKind.u64.wrap (vb:Int)=(vb:Int):=by
    unfold IntKind.wrap
    simp [IntKind.bits,IntKind.signed]
    omega
   clear h2 h4 h5 g2 hB hbig hC hq0
   go_wp2_with fail
   refine (Za7 wr HP.out HNOW.out).mono ?_
   rintro e w2 ⟨rfl,h9,k9,_⟩
   have H2:=hid h9
   have K2:=hid (HK.out.trans k9)
   clear h9 k9
   go_wp2_with fail
   refine (Zbf _ H2.out Zhq HQ.out).mono ?_
   rintro e w3 ⟨rfl,h9,k9⟩
   have H3:=hid h9
   have K3:=hid (K2.out.trans k9)
   clear h9 k9
   have HNU:=ZcW w3 H3.out
   rw [HB.out] at HNU
   go_wp2_with fail
   refine HNU.mono ?_
   clear HNU
   rintro e w4 ⟨rfl,h4,k4⟩
   have H4:=hid h4
   have K4:=hid (K3.out.trans k4)
   clear h4 k4
   go_wp2_with fail
   have HPU:=Zcy _ ⟨9,noB,vb,[a'],ps⟩ _ (Zcj H4.out _) (args1 H4.out a') HBIG.out
   rw [HC.out] at HPU
   refine HPU.mono ?_
   clear HPU
   rintro e w5 ⟨rfl,h5,k5⟩
   have H5:=hid h5
   have K5:=hid ((K4.out.trans (KT.below (Zai w4 _))).trans k5)
   clear h5 k5
   go_wp2
   refine ⟨⟨f',sc,vc,by omega,HX.out,rfl,H5.out,K5.out,by rw [hci];omega⟩,?_⟩
   have e1:=H5.out.cur
   have e2:=hcur.out
   have e3:=H5.out.el
   simp only [e1,e2]
   omega
  | false=>
   have HX:=hid (show R=(s',a') from by rw [HRR.out,ZaM];simp only [hq0];rfl)
   have HQ:=hid hq0
   clear hq0
   go_wp2_with fail
   refine (Za7 wr HP.out HNOW.out).mono ?_
   rintro e w2 ⟨rfl,h9,k9,_⟩
   have H2:=hid h9
   have K2:=hid (HK.out.trans k9)
   clear h9 k9
   go_wp2_with fail
   refine (ZaT _ H2.out Zhq HQ.out).mono ?_
   rintro e w3 ⟨rfl,h9,k9⟩
   have H3:=hid h9
   have K3:=hid (K2.out.trans k9)
   clear h9 k9
   go_wp2
   go_ret
   rw [HX.out]
   exact ⟨rfl,H3.out,K3.out⟩
theorem PM.adv {w:World} (h:PM X base P TA tc L s w) (hi:s.i<L.length):w.cell? ⟨P,1,none⟩=some (.int .i64 s.i)∧w.frozen? ⟨P,1,none⟩=false∧PM X base P TA tc L (advP s) (w.setCell ⟨P,1,none⟩ (.int .i64 ((s.i:Int)+1)))∧KT base w (w.setCell ⟨P,1,none⟩ (.int .i64 ((s.i:Int)+1))):=by
 obtain ⟨_,_,_,_,_,h⟩:=h
 exact ⟨h.c1,h.free 1,(h.adv hi).1.pm,(h.adv hi).2⟩
theorem PM.rise {w:World} (h:PM X base P TA tc L s w) (hd:1≤s.deep):w.cell? ⟨P,4,none⟩=some (.int .i64 s.deep)∧w.frozen? ⟨P,4,none⟩=false∧PM X base P TA tc L (riseP s) (w.setCell ⟨P,4,none⟩ (.int .i64 ((s.deep:Int)-1)))∧KT base w (w.setCell ⟨P,4,none⟩ (.int .i64 ((s.deep:Int)-1))):=by
 obtain ⟨_,_,_,_,_,h⟩:=h
 have h':=h.deepen (s.deep-1) (by have:=h.dd;omega)
 have e:((s.deep-1:Nat):Int)=(s.deep:Int)-1:=by omega
 rw [e] at h'
 exact ⟨h.c4,h.free 4,h'.1.pm,h'.2⟩
theorem Zj0 (f:Nat) (ih:∀ f',f'≤f→AllW base P TA tc L f') (w:World) (s:PS) (h:PM X base P TA tc L s w) (hf:12*(L.length-s.i)+3≤f+1):
  Calls Tryz.prog 210 #[PP P] w (ZaR X base P TA tc L w (signP L (f+1) s)):=by
 obtain ⟨he1,he2,he3,he4⟩:=h.el
 obtain ⟨kd,tx,nm,ps,hnow⟩:∃ kd tx nm ps,nowP L s=⟨kd,tx,nm,ps⟩:=⟨_,_,_,_,rfl⟩
 have HNOW:=hid hnow
 have H:=hid h
 have IH:=hid ih
 clear ih h hnow
 cases hq:isP L s ZcX with
 | false=>
  have HR:=hid (show signP L (f+1) s=postP L f s from by rw [signP];simp only [hq];rfl)
  have HQ:=hid hq
  clear hq
  go_enter Tryz.func210,Tryz.ntmps210
  go_wp2_with fail
  refine (Za7 w H.out HNOW.out).mono ?_
  rintro e w2 ⟨rfl,h9,k9,_⟩
  have H2:=hid h9
  have K2:=hid (k9)
  clear h9 k9
  go_wp2_with fail
  refine (is_pm _ H2.out ZcX HQ.out).mono ?_
  rintro e w3 ⟨rfl,h9,k9⟩
  have H3:=hid h9
  have K3:=hid (K2.out.trans k9)
  clear h9 k9
  go_wp2_with fail
  refine ((IH.out f (Kag _)).post w3 s H3.out (by omega)).mono ?_
  rintro e w4 ⟨rfl,h9,k9⟩
  have H4:=hid h9
  have K4:=hid (K3.out.trans k9)
  clear h9 k9
  go_wp2
  go_ret
  exact ⟨by rw [HR.out];rfl,by rw [HR.out];exact H4.out,K4.out⟩
 | true=>
  have hlt:=ZaD hq
  obtain ⟨sk,bk,hk⟩:∃ sk bk,sinkP L s=(sk,bk):=⟨_,_,rfl⟩
  cases bk with
  | false=>
   have HR:=hid (show signP L (f+1) s=(sk,0) from by rw [signP];simp only [hq,hk];rfl)
   have HQ:=hid hq
   have HKK:=hid hk
   clear hq hk
   go_enter Tryz.func210,Tryz.ntmps210
   go_wp2_with fail
   refine (Za7 w H.out HNOW.out).mono ?_
   rintro e w2 ⟨rfl,h9,k9,_⟩
   have H2:=hid h9
   have K2:=hid (k9)
   clear h9 k9
   go_wp2_with fail
   refine (is_pm _ H2.out ZcX HQ.out).mono ?_
   rintro e w3 ⟨rfl,h9,k9⟩
   have H3:=hid h9
   have K3:=hid (K2.out.trans k9)
   clear h9 k9
   go_wp2_with fail
   refine (Zdn w3 H3.out HKK.out).mono ?_
   rintro e w4 ⟨rfl,h9,k9⟩
   have H4:=hid h9
   have K4:=hid (K3.out.trans k9)
   clear h9 k9
   go_wp2
   go_ret
   exact ⟨by rw [HR.out];rfl,by rw [HR.out];exact H4.out,K4.out⟩
  | true=>
   obtain ⟨hd1,hd2⟩:=Zck (show (sinkP L s).2=true by rw [hk])
   rw [hk] at hd2
   have hsk:sk={ s with deep:=s.deep+1 }:=hd2
   have hski:sk.i=s.i:=by rw [hsk]
   have hske:sk.es=s.es:=by rw [hsk]
   have g2:=(allG L f).sign (advP sk)
   have HB:=hid (fun w' (h':PM X base P TA tc L _ w')=>(IH.out f (Kag _)).sign w' (advP sk) h' (by show 12*(L.length-(sk.i+1))+3≤f;omega))
   obtain ⟨sb,vb,hB⟩:∃ sb vb,signP L f (advP sk)=(sb,vb):=⟨_,_,rfl⟩
   rw [hB] at g2 HB
   have h2:=g2.he
   have h3:=g2.hi
   have h4:(advP sk).i=sk.i+1:=rfl
   have h5:(advP sk).es=sk.es:=rfl
   have h6:sb.deep=sk.deep:=g2.hd
   have h7:sk.deep=s.deep+1:=by rw [hsk]
   simp only [h4,h5,hski,hske] at h2 h3
   have hbig:(riseP sb).es.length+1≤(riseP sb).i:=by show sb.es.length+1≤sb.i;omega
   obtain ⟨sc,vc,hC⟩:∃ sc vc,putP (riseP sb) ⟨3,noB,0,[vb],ps⟩=(sc,vc):=⟨_,_,rfl⟩
   have HR:=hid (show signP L (f+1) s=(sc,vc) from by rw [signP];simp only [hq,hk,hB,HNOW.out,hC];rfl)
   have hskl:sk.i<L.length:=by omega
   have hsd:1≤sb.deep:=by omega
   have hsd2:sb.deep≤32:=by omega
   have HQ:=hid hq
   have HKK:=hid hk
   have HBIG:=hid hbig
   have HC:=hid hC
   clear hq hk hd2 hsk g2 hB h2 h4 h5 h6 h7 hbig hC hd1 hske
   go_enter Tryz.func210,Tryz.ntmps210
   go_wp2_with fail
   refine (Za7 w H.out HNOW.out).mono ?_
   rintro e w2 ⟨rfl,h9,k9,_⟩
   have H2:=hid h9
   have K2:=hid (k9)
   clear h9 k9
   go_wp2_with fail
   refine (is_pm _ H2.out ZcX HQ.out).mono ?_
   rintro e w3 ⟨rfl,h9,k9⟩
   have H3:=hid h9
   have K3:=hid (K2.out.trans k9)
   clear h9 k9
   go_wp2_with fail
   refine (Zdn w3 H3.out HKK.out).mono ?_
   rintro e w4 ⟨rfl,h9,k9⟩
   have H4:=hid h9
   have K4:=hid (K3.out.trans k9)
   clear h9 k9
   obtain ⟨c1,y1,h5',k5'⟩:=H4.out.adv hskl
   rw [hski] at c1 h5' k5'
   have H5:=hid h5'
   have K5:=hid (K4.out.trans k5')
   clear h5' k5'
   go_wp2_with fail
   refine (HB.out _ H5.out).mono ?_
   rintro e w6 ⟨rfl,h9,k9⟩
   have H6:=hid h9
   have K6:=hid (K5.out.trans k9)
   clear h9 k9
   clear c1 y1
   obtain ⟨c4,y4,h7',k7'⟩:=H6.out.rise hsd
   have H7:=hid h7'
   have K7:=hid (K6.out.trans k7')
   clear h7' k7'
   go_wp2_with fail
   obtain ⟨w8,hw8⟩:∃ w8,w8=w6.setCell ⟨P,4,none⟩ (.int .i64 ((sb.deep:Int)-1)):=⟨_,rfl⟩
   rw [←hw8] at H7 K7
   have HPU:=Zcy _ ⟨3,noB,0,[vb],ps⟩ _ (Zcj H7.out _) (args1 H7.out vb) HBIG.out
   rw [HC.out] at HPU
   have e8:w8.heap.size=w6.heap.size:=by rw [hw8];simp [World.setCell]
   rw [e8,hw8] at HPU
   refine HPU.mono ?_
   clear HPU
   rintro e w9 ⟨rfl,h9,k9⟩
   have H9:=hid h9
   have K9:=hid ((K7.out.trans (KT.below (Zai w8 _))).trans (by rw [hw8];exact k9))
   clear h9 k9
   go_wp2
   go_ret
   exact ⟨by rw [HR.out];rfl,by rw [HR.out];exact H9.out,K9.out⟩
end
end Go.Proofs.YtghlnncfigkkaaaGreatDoor
