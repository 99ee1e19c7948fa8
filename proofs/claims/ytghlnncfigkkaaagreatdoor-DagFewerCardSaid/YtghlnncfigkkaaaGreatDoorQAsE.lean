/-
 errors.As at an error number, and fault.Code, by walks.
-/
import Derived.Test.YtghlnncfigkkaaaGreatDoorQNum
import Derived.Test.YtghlnncfigkkaaaGreatDoorQAsF
set_option maxRecDepth 100000
set_option maxHeartbeats 4000000
open Go.Lib (hid)
namespace Go.Proofs.YtghlnncfigkkaaaGreatDoor
set_option linter.unusedVariables false
set_option linter.unusedSimpArgs false
open Go.RowKit Go.Extern.Stop Go.Stop Go.Extern
def Wrote (w w':World) (t:Addr) (v:Value):Prop:=∃ w1,Below w.heap.size w w1∧w'=w1.setCell t v
theorem Wrote.below {w w':World} {t:Addr} {v:Value} {B:Nat} (h:Wrote w w' t v) (ht:B≤t.block) (hB:B≤w.heap.size):Below B w w':=by
 obtain ⟨w1,h1,rfl⟩:=h
 exact (h1.mono hB).setCell ht v
theorem Zhx (t:Addr) (w:World):(ReflectliteValue.unpack (.iface 190 (.pointer (some t)))).run Tryz.prog w
  = .ok (.agg #[hand 190,.pointer (some ⟨w.heap.size,0,none⟩),.int .u64 150]) (w.alloc (.cells #[.pointer (some t)] 190)):=by kernel_rfl
theorem ZlR (a:Addr) (w:World):(ReflectliteValue.methodAny (ReflectliteValue.valueError "reflectlite.Value.Type" 0) (fun t _ _ _=>ReflectliteType.toType t) #[.agg #[hand 190,.pointer (some a),.int .u64 150]]).run Tryz.prog w
  = .ok (.iface 237 (.agg #[hand 190])) w:=by kernel_rfl
theorem ZlS (w:World):((ReflectliteType.abiMethod fun t=>(fun a:Nat=>Value.int IntKind.u8 (a:Int)) <$> Rtype.kind t) #[hand 190]).run Tryz.prog w=.ok (.int .u8 22) w:=by kernel_rfl
theorem Znd (w:World):((ReflectliteType.abiMethod fun t=>(fun a:Nat=>Value.int IntKind.u8 (a:Int)) <$> Rtype.kind t) #[hand 189]).run Tryz.prog w=.ok (.int .u8 22) w:=by kernel_rfl
theorem ZjT (a:Addr) (w:World):(ReflectliteValue.parts (.agg #[hand 190,.pointer (some a),.int .u64 150])).run Tryz.prog w=.ok (some (190,a,150)) w:=by kernel_rfl
theorem ZjU (a p:Addr) (W:World) (ha:W.cell? a=some (.pointer (some p))):
  (ReflectliteValue.method (ReflectliteValue.valueError "reflectlite.Value.IsNil" 0) ReflectliteValue.isNil #[.agg #[hand 190,.pointer (some a),.int .u64 150]]).run Tryz.prog W=.ok (.bool false) W:=by
 rw [rlm]
 simp only [Sem.run_bind,ZjT,Result.andThen]
 simp [ReflectliteValue.isNil,loadVar,isAgg,underlying,Tryz.underlying190,ha,Result.andThen]
theorem Zne (w:World):(ReflectliteType.method ReflectliteType.elem #[.agg #[hand 190]]).run Tryz.prog w=.ok (.iface 237 (.agg #[hand 189])) w:=by kernel_rfl
theorem Zfm (w:World):(ReflectliteType.relation "Implements" ReflectliteType.implements_ #[.agg #[hand 189],.iface 237 (.agg #[hand 28])]).run Tryz.prog w=.ok (.bool true) w:=by kernel_rfl
theorem ZjV (v:Value) (w:World):(ReflectliteType.typeOf #[.iface 189 v]).run Tryz.prog w=.ok (.iface 237 (.agg #[hand 189])) w:=by kernel_rfl
theorem ZeI (w:World):(ReflectliteType.relation "AssignableTo" ReflectliteType.assignableTo #[.agg #[hand 35],.iface 237 (.agg #[hand 189])]).run Tryz.prog w=.ok (.bool false) w:=by kernel_rfl
theorem ZeJ (w:World):(ReflectliteType.relation "AssignableTo" ReflectliteType.assignableTo #[.agg #[hand 189],.iface 237 (.agg #[hand 35])]).run Tryz.prog w=.ok (.bool false) w:=by kernel_rfl
theorem Znf (v:Value) (xT:TypeId) (w:World):(Instr.typeAssert (.iface 189 v) xT 241 true).run Tryz.prog w=.ok (.tuple #[.nilIface,.bool false]) w:=
 run_typeAssert_lacksB Tryz.underlying241 (by kernel_rfl) (by kernel_rfl) v xT w
theorem Zng (v:Value) (xT:TypeId) (w:World):(Instr.typeAssert (.iface 35 v) xT 241 true).run Tryz.prog w=.ok (.tuple #[.nilIface,.bool false]) w:=
 run_typeAssert_lacksB Tryz.underlying241 (by kernel_rfl) (by kernel_rfl) v xT w
theorem Zfn (v:Value) (xT:TypeId) (w:World):(Instr.typeAssert (.iface 189 v) xT 244 true).run Tryz.prog w=.ok (.tuple #[.iface 189 v,.bool true]) w:=
 run_typeAssert_hasB Tryz.underlying244 (by kernel_rfl) v xT w
theorem Zek (v:Value) (xT:TypeId) (w:World):(Instr.typeAssert (.iface 35 v) xT 244 true).run Tryz.prog w=.ok (.tuple #[.nilIface,.bool false]) w:=
 run_typeAssert_lacksB Tryz.underlying244 (by kernel_rfl) (by kernel_rfl) v xT w
theorem ZdD (v:Value) (xT:TypeId) (w:World):(Instr.typeAssert (.iface 35 v) xT 246 true).run Tryz.prog w=.ok (.tuple #[.nilIface,.bool false]) w:=
 run_typeAssert_lacksB Tryz.underlying246 (by kernel_rfl) (by kernel_rfl) v xT w
theorem Zel (a:Addr) (w:World):(nilAhead 437 189 (.pointer (some a)) "Unwrap").run Tryz.prog w=.ok (some false) w:=by kernel_rfl
theorem Zct (a:Addr) (w:World):(Go.method 437 189 (.pointer (some a)) "Unwrap").run Tryz.prog w=.ok (253,.pointer (some a)) w:=by kernel_rfl
def IsErr (w:World):Value→List (ByteArray × Int)→Int→Prop
 | v,[],code=>v=.iface 35 (.int .i64 code)
 | v,(name,at_)::r,code=>∃ (a:Nat) (inner:Value),v=.iface 189 (.pointer (some ⟨a,0,none⟩)) ∧
   w.heap[a]?=some (.cells #[.string name,.int .i64 at_,.int .i64 ((r.length:Int)+1),inner] 192 (0,0))∧IsErr w inner r code
theorem IsErr.keep {w w':World}:∀ {v:Value} {l:List (ByteArray × Int)} {code:Int},IsErr w v l code→(∀ (k:Nat) (o:Obj),w.heap[k]?=some o→w'.heap[k]?=some o)→IsErr w' v l code
 | v,[],code,h,_=>h
 | v,(name,at_)::r,code,h,hk=>by
  obtain ⟨a,inner,hv,hc,hr⟩:=h
  exact ⟨a,inner,hv,hk _ _ hc,hr.keep hk⟩
theorem IsErr.next {w w':World} {v:Value} {l:List (ByteArray × Int)} {code:Int} (h:IsErr w v l code) (hb:Below w.heap.size w w'):IsErr w' v l code:=
 h.keep fun k o hk=>by rw [hb.block k (Kab.1 hk).1];exact hk
theorem IsErr.iface {w:World} {v:Value} {l:List (ByteArray × Int)} {code:Int} (h:IsErr w v l code):∃ t x,v=.iface t x:=by
 cases l with
 | nil=>exact ⟨_,_,h⟩
 | cons p r=>obtain ⟨a,inner,hv,_⟩:=h;exact ⟨_,_,hv⟩
theorem Zem (a:Nat) (name:ByteArray) (at_ d:Int) (inner:Value) (w:World) (hc:w.heap[a]?=some (.cells #[.string name,.int .i64 at_,.int .i64 d,inner] 192 (0,0))):
  Calls Tryz.prog 253 #[.pointer (some ⟨a,0,none⟩)] w fun e w'=>e=.returned inner∧w=w':=by
 have h3:w.cell? ⟨a,3,none⟩=some inner:=Kaa w a 3 _ _ (0,0) hc
 clear hc
 go_enter Tryz.func253,Tryz.ntmps253
 go_wp2
 go_ret
 exact ⟨rfl,rfl⟩
def Zc9 (w:World) (v:Value):Nat:=
 match v with
 | .iface _ (.pointer (some a))=>match w.cell? ⟨a.block,2,none⟩ with
  | some (.int _ d)=>d.toNat
  | _=>0
 | _=>0
theorem ZbO {w:World} {v:Value} {l:List (ByteArray × Int)} {code:Int} (h:IsErr w v l code):Zc9 w v=l.length:=by
 cases l with
 | nil=>
  have hv':v=.iface 35 (.int .i64 code):=h
  subst hv'
  rfl
 | cons p r=>
  obtain ⟨a,inner,rfl,hc,_⟩:=h
  have h2:w.cell? ⟨a,2,none⟩=some (.int .i64 ((r.length:Int)+1)):=Kaa w a 2 _ _ (0,0) hc
  unfold Zc9
  simp only
  rw [h2]
  simp
def AsRel (w:World) (code:Int) (v:Value):Prop:=∃ r:List (ByteArray × Int),IsErr w v r code
attribute [irreducible] Zc9
theorem as_EC (l:List (ByteArray × Int)) (code:Int) (v:Value) (t a:Addr) (old:Value) (w:World) (hv:IsErr w v l code) (ha:w.cell? a=some (.pointer (some t))) (ht:w.cell? t=some old) (hf:w.frozen? t=false):
  Calls Tryz.prog 92 #[v,.iface 104 (.pointer (some t)),.agg #[hand 104,.pointer (some a),.int .u64 150],.iface 237 (.agg #[hand 35])] w fun e w'=>
   e=.returned (.bool true)∧Wrote w w' t (.int .i64 code):=by
 have hal:a.block<w.heap.size:=World.block_lt_of_cell? w a ha
 have htl:t.block<w.heap.size:=World.block_lt_of_cell? w t ht
 have h10:=Zcm
 have h35:=Zb7
 have h11:=Zfr
 have h12:=Zik
 have h6:=ZbP
 have tO:=Zd3
 have tP:=ZjV
 have mA:=ZaZ
 have a25:=Zdr
 have pe:=ZeJ
 have v25:=Zfp
 have n1:=Znf
 have n2:=Zfn
 have n3:=Zel
 have n4:=Zct
 obtain ⟨W1,E1⟩:∃ W1,W1=w.alloc (.cells #[hand 104,.pointer (some a),.int .u64 150] 171):=⟨_,rfl⟩
 have hv1:AsRel W1 code v:=⟨l,by rw [E1];exact hv.next ((Kai _ _).alloc (Kag _) _)⟩
 have el:=Zij a t W1 (by rw [E1,World.cell?_alloc_lt _ _ a hal];exact ha)
 have st:=E_set t ⟨w.heap.size+1,0,none⟩ code old (W1.alloc (.cells #[.int .i64 code] 35))
  (by rw [E1,World.cell?_alloc_at _ _ _ _ (by simp)];rfl)
  (by rw [E1,World.cell?_alloc_lt _ _ t (by simp;omega),World.cell?_alloc_lt _ _ t htl];exact ht)
  (by rw [E1,World.frozen?_alloc_old _ _ t (by simp;omega),World.frozen?_alloc_old _ _ t (Nat.ne_of_lt htl)];exact hf)
 have hb1:W1.cell? ⟨w.heap.size,0,none⟩=some (hand 104)∧W1.cell? ⟨w.heap.size,1,none⟩=some (.pointer (some a))∧W1.cell? ⟨w.heap.size,2,none⟩=some (.int .u64 150):=by
  have hh:W1.heap[w.heap.size]?=some (.cells #[hand 104,.pointer (some a),.int .u64 150] 171 (0,0)):=by rw [E1];exact Kac w _
  exact ⟨Kaa _ _ 0 _ _ (0,0) hh,Kaa _ _ 1 _ _ (0,0) hh,Kaa _ _ 2 _ _ (0,0) hh⟩
 have hz1:W1.heap.size=w.heap.size+1:=by rw [E1];simp
 obtain ⟨hb10,hb11,hb12⟩:=hb1
 have HE:=hid E1
 go_enter Tryz.func92,Tryz.ntmps92
 go_wp2
 rw [←E1]
 clear E1 hv ha ht hf
 go_loop [0] (fun v=>AsRel W1 code v) (fun v=>Zc9 W1 v)
 case atStart=>exact hv1
 case round=>
  clear hv1
  obtain ⟨r,hr⟩:=hrel
  cases r with
  | nil=>
   obtain rfl:=(show _=_ from hr)
   clear hr
   go_wp2
   go_ret
   exact ⟨rfl,W1.alloc (.cells #[.int .i64 code] 35),by rw [HE.out];exact ((Kai _ _).alloc (Kag _) _).alloc (by simp) _,rfl⟩
  | cons p r=>
   have hl:=hid (ZbO hr)
   obtain ⟨g,inner,rfl,hc,hi⟩:=hr
   have hl2:=hid (ZbO hi)
   have HI:=hid hi
   have HC:=hid hc
   obtain ⟨ti,xi,rfl⟩:=hi.iface
   clear hi hc
   go_wp2_with (go_at_call 253;refine (Zem g _ _ _ _ _ HC.out).mono ?_;rintro e w' ⟨rfl,rfl⟩)
   exact ⟨⟨r,HI.out⟩,by rw [hl.out,hl2.out];simp⟩
theorem as_PE (n:Int) (t a:Addr) (w:World) (ha:w.cell? a=some (.pointer (some t))):
  Calls Tryz.prog 92 #[.iface 35 (.int .i64 n),.iface 190 (.pointer (some t)),.agg #[hand 190,.pointer (some a),.int .u64 150],.iface 237 (.agg #[hand 189])] w fun e w'=>
   e=.returned (.bool false)∧Below w.heap.size w w':=by
 have h10:=Zcm
 have h35:=Zb7
 have tO:=Zd3
 have mA:=ZaZ
 have ep:=ZeI
 have n1:=Zng
 have n2:=Zek
 have n3:=ZdD
 go_enter Tryz.func92,Tryz.ntmps92
 go_wp2
 refine wp_loop_rounds 1 ?_
 rw [rounds_succ]
 go_wp2
 go_ret
 exact ⟨rfl,(Kai _ _).alloc (Kag _) _⟩
theorem ZfZ {w:World} {o1 o2:Obj} {a:Addr} {v:Value} (h:w.cell? a=some v):((w.alloc o1).alloc o2).cell? a=some v:=by
 have hl:=World.block_lt_of_cell? w a h
 rw [World.cell?_alloc_lt _ _ a (by simp;omega),World.cell?_alloc_lt _ _ a hl]
 exact h
theorem ZlT {w:World} {o1 o2:Obj} {a:Addr} {v:Value} (h:w.cell? a=some v) (hf:w.frozen? a=false):((w.alloc o1).alloc o2).frozen? a=false:=by
 have hl:=World.block_lt_of_cell? w a h
 rw [World.frozen?_alloc_old _ _ a (by simp;omega),World.frozen?_alloc_old _ _ a (Nat.ne_of_lt hl)]
 exact hf
theorem Zii (w:World) (o1 o2:Obj):Below w.heap.size w ((w.alloc o1).alloc o2):=((Kai _ _).alloc (Kag _) _).alloc (by simp) _
theorem As_EC (l:List (ByteArray × Int)) (code:Int) (v:Value) (t:Addr) (old:Value) (w:World) (hg:w.cell? ⟨0,0,none⟩=some ETy) (hv:IsErr w v l code) (ht:w.cell? t=some old) (hf:w.frozen? t=false):
  Calls Tryz.prog 48 #[v,.iface 104 (.pointer (some t))] w fun e w'=>e=.returned (.bool true)∧Wrote w w' t (.int .i64 code):=by
 unfold ETy at hg
 obtain ⟨tv,xv,rfl⟩:=hv.iface
 have h6:=ZbP
 have h7:=ZgJ
 have h8:=Zfq
 have h27:=ZgK
 have h37:=ZgL
 have h38:=Zcu
 have f6:=Zhy
 have f7:=ZlU
 have mK:=Zdp
 have mE:=Zdq
 have mI:=Zb4
 have k27:=ZlV
 have k25:=Znh
 have e27:=Zni
 have i25:=Zfo
 have n8:=ZjX ⟨w.heap.size,0,none⟩ t ((w.alloc (.cells #[.pointer (some t)] 104)).alloc (.cells #[hand 104,.pointer (some ⟨w.heap.size,0,none⟩),.int .u64 150] 171)) (by simp)
 have hg2:((w.alloc (.cells #[.pointer (some t)] 104)).alloc (.cells #[hand 104,.pointer (some ⟨w.heap.size,0,none⟩),.int .u64 150] 171)).cell? ⟨0,0,none⟩=some (.iface 237 (.agg #[hand 28])):=ZfZ hg
 have HV:=hid hv
 have HT:=hid ht
 have HF:=hid hf
 clear hv ht hf
 go_enter Tryz.func48,Tryz.ntmps48
 go_wp2_with fail
 refine (as_EC l code _ t ⟨w.heap.size,0,none⟩ old _ (HV.out.next (Zii _ _ _)) (by rw [World.cell?_alloc_lt _ _ ⟨w.heap.size,0,none⟩ (by simp)];simp) (ZfZ HT.out) (ZlT HT.out HF.out)).mono ?_
 rintro e w' ⟨rfl,hw⟩
 have HW:=hid hw
 clear hw
 go_wp2
 go_ret
 refine ⟨rfl,?_⟩
 obtain ⟨w1,hb1,rfl⟩:=HW.out
 exact ⟨w1,(Zii w _ _).trans (hb1.mono (by simp;omega)),rfl⟩
theorem As_PE (n:Int) (t:Addr) (w:World) (hg:w.cell? ⟨0,0,none⟩=some ETy):
  Calls Tryz.prog 48 #[.iface 35 (.int .i64 n),.iface 190 (.pointer (some t))] w fun e w'=>e=.returned (.bool false)∧Below w.heap.size w w':=by
 unfold ETy at hg
 have h6:=ZbP
 have h7:=ZgJ
 have h8:=Zfq
 have h27:=ZgK
 have h37:=ZgL
 have h38:=Zcu
 have f6:=Zhx
 have f7:=ZlR
 have mK:=Zdp
 have mE:=Zdq
 have mI:=Zb4
 have k27:=ZlS
 have k25:=Znd
 have e27:=Zne
 have i25:=Zfm
 have n8:=ZjU ⟨w.heap.size,0,none⟩ t ((w.alloc (.cells #[.pointer (some t)] 190)).alloc (.cells #[hand 190,.pointer (some ⟨w.heap.size,0,none⟩),.int .u64 150] 171)) (by simp)
 have hg2:((w.alloc (.cells #[.pointer (some t)] 190)).alloc (.cells #[hand 190,.pointer (some ⟨w.heap.size,0,none⟩),.int .u64 150] 171)).cell? ⟨0,0,none⟩=some (.iface 237 (.agg #[hand 28])):=ZfZ hg
 go_enter Tryz.func48,Tryz.ntmps48
 go_wp2_with fail
 refine (as_PE n t ⟨w.heap.size,0,none⟩ _ (by rw [World.cell?_alloc_lt _ _ ⟨w.heap.size,0,none⟩ (by simp)];simp)).mono ?_
 rintro e w' ⟨rfl,hw⟩
 have HW:=hid hw
 clear hw
 go_wp2
 go_ret
 exact ⟨rfl,(Zii w _ _).trans (HW.out.mono (by simp;omega))⟩
def ETyped (w:World):Prop:=w.cell? ⟨0,0,none⟩=some ETy
theorem ETyped.lt {w:World} (h:ETyped w):0<w.heap.size:=World.block_lt_of_cell? w _ h
theorem ETyped.next {w w':World} (h:ETyped w) (hb:Below w.heap.size w w'):ETyped w':=(hb.cell (p:=⟨0,0,none⟩) h.lt).trans h
theorem ETyped.drewN {w:World} (h:ETyped w) (n:Nat):ETyped (w.drewN n):=h
def OutE (W:World) (l:List (ByteArray × Int)) (code:Int) (e:Ending) (w':World):Prop:=∃ v,e=.returned v∧IsErr w' v l code∧Below W.heap.size W w'
theorem ZdE (code:Int) (name:ByteArray) (at_:Int) (w:World) (hg:ETyped w):
  Calls Tryz.prog 53 #[.iface 35 (.int .i64 code),.string name,.int .i64 at_] w (OutE w [(name,at_)] code):=by
 have HG:=hid hg
 clear hg
 go_enter Tryz.func53,Tryz.ntmps53
 go_wp2_with fail
 refine (As_PE code ⟨w.heap.size,0,none⟩ _ (HG.out.next ((Kai _ _).alloc (Kag _) _))).mono ?_
 rintro e w' ⟨rfl,hw⟩
 have hb:Below w.heap.size w w':=((Kai _ _).alloc (Kag _) _).trans (hw.mono (by simp))
 have HB:=hid hb
 clear hb hw
 go_wp2
 go_ret
 exact ⟨_,rfl,⟨w'.heap.size,_,rfl,Kac w' _,rfl⟩,HB.out.alloc HB.out.size _⟩
end Go.Proofs.YtghlnncfigkkaaaGreatDoor
