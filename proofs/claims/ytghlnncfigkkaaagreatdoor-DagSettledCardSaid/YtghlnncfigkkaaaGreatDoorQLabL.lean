/-
 The product of two matrices as lists of words, filled in cell by cell: plain lemmas, no program.
-/
import Derived.Test.YtghlnncfigkkaaaGreatDoorQNum
import Derived.Test.YtghlnncfigkkaaaGreatDoorRows
import Derived.BigQuiet
import Derived.Deep.QuietTactic
import Derived.Deep.OwnRows
set_option maxRecDepth 100000
set_option maxHeartbeats 1000000
set_option linter.unusedVariables false
set_option linter.unusedSimpArgs false
namespace Go.Proofs.YtghlnncfigkkaaaGreatDoor
open Go.RowKit
theorem extW {l a:List UInt64} (c:l.length=a.length) (h:∀ k,k<l.length→nthW l k=nthW a k):l=a:=by
 apply List.ext_getElem c
 intro i b d
 have:=h i b;rw [Zbo,Zbo,List.getD_eq_getElem?_getD,List.getD_eq_getElem?_getD,Kad b,Kad d] at this;exact this
theorem Zat (n:Nat) (f:Nat→UInt64) {k:Nat} (h:k<n):nthW ((List.range n).map f) k=f k:=by
 rw [Zbo,List.getD_eq_getElem?_getD,Kal,List.getElem?_range h];rfl
theorem ZcQ (l:List UInt64) (k:Nat) (x:UInt64) (h:k<l.length):nthW (l.set k x) k=x:=by
 rw [Zbo,List.getD_eq_getElem?_getD,List.getElem?_set_self h];rfl
theorem Zcx (l:List UInt64) {j k:Nat} (x:UInt64) (h:j≠k):nthW (l.set k x) j=nthW l j:=by
 rw [Zbo,Zbo,List.getD_eq_getElem?_getD,List.getD_eq_getElem?_getD,List.getElem?_set_ne (Ne.symm h)]
def ZbV (n:Nat):List UInt64:=List.replicate n 0
theorem Zbt (n:Nat):(ZbV n).length=n:=by unfold ZbV;simp
theorem Ze3 (n k:Nat):nthW (ZbV n) k=0:=by
 unfold ZbV;rw [Zbo,List.getD_eq_getElem?_getD,List.getElem?_replicate];split <;> rfl
attribute [irreducible] ZbV
def dotW (xs ys:List UInt64) (k n p:Nat):Nat→UInt64
 | 0=>0
 | t+1=>addW (dotW xs ys k n p t) (mulW (nthW xs (p / n*k+t)) (nthW ys (t*n+p % n)))
def stW (xs ys:List UInt64) (m k n r t:Nat):List UInt64:=
 (List.range (m*n)).map fun p=>if p<r then dotW xs ys k n p k else if p=r then dotW xs ys k n p t else 0
def matW (xs ys:List UInt64) (m k n:Nat):List UInt64:=(List.range (m*n)).map fun p=>dotW xs ys k n p k
theorem Za9 (xs a:List UInt64) (m k n r t:Nat):(stW xs a m k n r t).length=m*n:=by unfold stW;simp
theorem ZaV (xs a:List UInt64) (m k n:Nat):(matW xs a m k n).length=m*n:=by unfold matW;simp
theorem ZfF (xs a:List UInt64) (m k n:Nat) {p:Nat} (h:p<m*n):nthW (matW xs a m k n) p=dotW xs a k n p k:=Zat _ _ h
theorem Zjc (xs b:List UInt64) (m k n:Nat):ZbV (m*n)=stW xs b m k n 0 0:=by
 apply extW (by rw [Zbt,Za9])
 intro p a
 rw [Zbt] at a;unfold stW;rw [Ze3,Zat _ _ a]
 by_cases h:p=0 <;> simp [h,dotW]
theorem Zhc (xs a:List UInt64) (m k n r t:Nat) (h:r<m*n):nthW (stW xs a m k n r t) r=dotW xs a k n r t:=by
 unfold stW;rw [Zat _ _ h];simp
theorem ZkN (xs b:List UInt64) (m k n r t:Nat) (_h:r<m*n):
  (stW xs b m k n r t).set r (addW (dotW xs b k n r t) (mulW (nthW xs (r / n*k+t)) (nthW b (t*n+r % n))))=stW xs b m k n r (t+1):=by
 apply extW (by rw [List.length_set,Za9,Za9])
 intro p a
 rw [List.length_set,Za9] at a
 by_cases c:p=r
 ·subst c;rw [ZcQ _ _ _ (by rw [Za9];exact a),Zhc _ _ _ _ _ _ _ a]
  rfl
 ·rw [Zcx _ _ c];unfold stW;rw [Zat _ _ a,Zat _ _ a];simp [c]
theorem ZkO (xs c:List UInt64) (m k n r:Nat):stW xs c m k n r k=stW xs c m k n (r+1) 0:=by
 apply extW (by rw [Za9,Za9])
 intro p a
 rw [Za9] at a;unfold stW;rw [Zat _ _ a,Zat _ _ a]
 by_cases b:p<r
 ·rw [if_pos b,if_pos (by omega)]
 ·by_cases d:p=r
  ·rw [if_neg b,if_pos d,if_pos (by omega)]
  ·rw [if_neg b,if_neg d,if_neg (by omega)]
   by_cases e:p=r+1
   ·rw [if_pos e];rfl
   ·rw [if_neg e]
theorem Zm0 (xs b:List UInt64) (m k n:Nat):stW xs b m k n (m*n) 0=matW xs b m k n:=by
 apply extW (by rw [Za9,ZaV])
 intro p a
 rw [Za9] at a;rw [ZfF _ _ _ _ _ a];unfold stW;rw [Zat _ _ a,if_pos a]
theorem ZkP (xs a:List UInt64) (m k n i j t:Nat) (d:i<m) (b:j<n):
  (stW xs a m k n (i*n+j) t).set (i*n+j) (addW (nthW (stW xs a m k n (i*n+j) t) (i*n+j)) (mulW (nthW xs (i*k+t)) (nthW a (t*n+j))))=stW xs a m k n (i*n+j) (t+1):=by
 have c:i*n+j<m*n:=by
  have e:(i+1)*n≤m*n:=Nat.mul_le_mul_right n d;rw [Nat.add_mul] at e;omega
 have f:(i*n+j) / n=i:=by
  rw [Nat.mul_comm,Nat.mul_add_div (by omega),Nat.div_eq_of_lt b];omega
 have g:(i*n+j) % n=j:=by
  rw [Nat.mul_comm,Nat.mul_add_mod,Nat.mod_eq_of_lt b]
 have:=ZkN xs a m k n (i*n+j) t c;rw [f,g] at this;rw [Zhc _ _ _ _ _ _ _ c,this]
attribute [irreducible] stW matW dotW
attribute [local go_sem ↓] Zcg Zc4 Zfc Zgz ZbA Zch ZlI Zg0 Zg1 ZlJ Zhi Zjp ZbL ZdB ZeA ZfM Zhj Zhk ZcT ZdV ZeB ZcU Zhl Zjq ZbT ZcV Zg2 ZlK ZdW ZhS
def oneW (b:Bool):UInt64:=if b then 1 else 0
theorem Zjd (x:UInt64) (k:Int) (w:World):
  Calls Tryz.prog 189 #[U x,.int .i64 k] w fun e w'=>e=.returned (U (sarW x (min (max k 0) 63).toNat))∧w=w':=by
 rcases (by omega:k<0∨(0≤k∧k≤63)∨63<k) with h | ⟨a,b⟩ | h
 ·have e:(min (max k 0) 63).toNat=0:=by omega
  have z:sarW x 0=x:=by have:=ZbT x 0;simp [Zg2] at this;exact (UInt64.toNat_inj.1 (by omega)).symm
  go_enter Tryz.func189,Tryz.ntmps189
  go_wp2
  go_ret;exact ⟨by rw [e,z];rfl,rfl⟩
 ·have e:(min (max k 0) 63)=k:=by omega
  rw [e];clear e
  go_enter Tryz.func189,Tryz.ntmps189
  go_wp2
  go_ret;exact ⟨rfl,rfl⟩
 ·have e:(min (max k 0) 63).toNat=63:=by omega
  rw [e];clear e
  go_enter Tryz.func189,Tryz.ntmps189
  go_wp2
  go_ret;exact ⟨rfl,rfl⟩
theorem Zd9 (x y:UInt64) (w:World):
  Calls Tryz.prog 183 #[U x,U y] w fun e w'=>e=.returned (U (oneW (sltW x y)))∧w=w':=by
 go_enter Tryz.func183,Tryz.ntmps183
 go_wp2
 all_goals (go_ret;exact ⟨by simp [oneW, *],rfl⟩)
theorem Zdj (x:UInt64) (w:World):
  Calls Tryz.prog 159 #[U x] w fun e w'=>e=.returned (U (negW (andW x 1)))∧w=w':=by
 go_enter Tryz.func159,Tryz.ntmps159
 go_wp2
 all_goals (go_ret;exact ⟨rfl,rfl⟩)
def sumW (l:List UInt64):UInt64:=l.foldl addW 0
theorem Zjf (l:List UInt64) {k:Nat} (h:k<l.length):sumW (l.take (k+1))=addW (sumW (l.take k)) (nthW l k):=by
 unfold sumW;rw [List.take_succ_eq_append_getElem h,List.foldl_append,Zbo];simp [List.getD_eq_getElem?_getD,Kad h]
attribute [irreducible] sumW
theorem Zm1 (A:Option Addr) (c:Nat) (l:List UInt64) (B:Nat) (w:World) (h:l.length≤9223372036854775807) (a:Rd w B A (l.map U)):
  Calls Tryz.prog 154 #[.slice A l.length c] w fun e w'=>e=.returned (U (sumW l))∧w=w':=by
 go_enter Tryz.func154,Tryz.ntmps154
 go_wp2
 go_loop [3,5,8] (fun s _ i=>∃ n:Nat,n≤l.length∧i=.int .i64 n∧s=U (sumW (l.take n))) (fun _ _ i=>l.length-(intOf i).toNat)
 case atStart=>exact ⟨0,by omega,rfl,by unfold sumW;rfl⟩
 case round=>
  obtain ⟨n,j,rfl,rfl⟩:=hrel
  by_cases d:n<l.length
  ·obtain ⟨b,o,rfl,k,m⟩:=a.word d;have g:=Kz (Zjf l d);clear a
   go_wp2
   go_round
   case rel=>exact ⟨n+1,by omega,by go_num,by rw [g.o]⟩
   case measure=>simp [intOf];omega
  ·obtain rfl:n=l.length:=by omega
   go_wp2
   go_ret;exact ⟨rfl,rfl⟩
end Go.Proofs.YtghlnncfigkkaaaGreatDoor
namespace Go.Proofs.YtghlnncfigkkaaaGreatDoor
open Go.RowKit
def onesW:UInt64:=18446744073709551615
theorem Ze4:negW (andW 1 1)=onesW:=by unfold negW andW onesW;decide
theorem ZdR:negW (andW 0 1)=0:=by unfold negW andW;decide
theorem Zm2 (c:UInt64):andW c 1=1∨andW c 1=0:=by
 have h:=ZcT c;have a:(andW c 1).toNat=0∨(andW c 1).toNat=1:=by omega
 rcases a with a | a
 ·exact .inr (UInt64.toNat_inj.1 a)
 ·exact .inl (UInt64.toNat_inj.1 a)
theorem Zm3:negW 1=onesW:=by unfold negW onesW;decide
theorem ZkQ:negW 0=0:=by unfold negW;decide
theorem Zgs (x:UInt64):andW onesW x=x:=by
 unfold andW onesW;apply UInt64.toNat_inj.1;rw [UInt64.toNat_and];have:=x.toNat_lt
 show 18446744073709551615 &&& x.toNat=x.toNat
 rw [Nat.and_comm,show (18446744073709551615:Nat)=2 ^ 64-1 from rfl,Nat.and_two_pow_sub_one_eq_mod]
 omega
theorem Zfa (x:UInt64):andW 0 x=0:=by unfold andW;simp
theorem ZcR (x y:UInt64):andW x y=andW y x:=by unfold andW;exact UInt64.and_comm x y
theorem ZfG (x:UInt64):xorW x 0=x:=by unfold xorW;simp
theorem Zhd (a b:UInt64):xorW a (xorW a b)=b:=by unfold xorW;rw [←UInt64.xor_assoc,UInt64.xor_self,UInt64.zero_xor]
theorem Zjg (x y:UInt64):xorW x y=xorW y x:=by unfold xorW;exact UInt64.xor_comm x y
theorem ZkR (a b:UInt64) (c:Bool):xorW a (andW (xorW a b) (negW (andW (if c then 1 else 0) 1)))=if c then b else a:=by
 cases c with
 | true=>rw [if_pos rfl,if_pos rfl,Ze4,ZcR,Zgs,Zhd]
 | false=>
  have h:(if (false:Bool)=true then (1:UInt64) else 0)=0:=rfl
  rw [h,ZdR,ZcR,Zfa,ZfG];rfl
theorem ZkS (c y z:UInt64):xorW z (andW (negW (andW c 1)) (xorW y z))=if andW c 1=1 then y else z:=by
 rcases Zm2 c with h | h
 ·rw [h,if_pos rfl,Zm3,Zgs,Zjg y z,Zhd]
 ·rw [h,if_neg (by decide),ZkQ,Zfa,ZfG]
theorem ZkT (a:UInt64):shrW a 63=if sltW a 0 then 1 else 0:=by
 have h:=ZbL a;have d:=a.toNat_lt;apply UInt64.toNat_inj.1;unfold sltW;rw [sI_eq,sI_eq];have c:(0:UInt64).toNat=0:=rfl;rw [c,if_pos (show (0:Nat)<9223372036854775808 by decide)]
 by_cases b:a.toNat<9223372036854775808
 ·rw [if_pos b,decide_eq_false (by omega)]
  show (shrW a 63).toNat=0
  omega
 ·rw [if_neg b,decide_eq_true (by omega)]
  show (shrW a 63).toNat=1
  omega
def notW (x:UInt64):UInt64:=xorW x onesW
attribute [local go_sem ↓] Zcg Zc4 Zfc Zgz ZbA Zch ZlI Zg0 Zg1 ZlJ Zhi Zjp ZbL ZdB ZeA ZfM Zhj Zhk ZcT ZdV ZeB ZcU Zhl Zjq ZbT ZcV Zg2 ZlK
theorem ZaE {n:Int} (a:0≤n) (b:n≤9223372036854775807):IntKind.i64.wrap n=n:=by
 rw [IntKind.wrap_i64];omega
theorem ZhM (x y:UInt64):bits .andNot .u64 (x.toNat:Int) (y.toNat:Int)=((andW x (notW y)).toNat:Int):=by
 show IntKind.u64.wrap ((BitVec.ofInt 64 (x.toNat:Int) &&& ~~~ BitVec.ofInt 64 (y.toNat:Int)).toNat:Int)=_
 rw [ZaL,ZaL,wrapN];have:(andW x (notW y)).toNat=(x.toBitVec &&& ~~~ y.toBitVec).toNat:=by
  unfold andW notW xorW onesW
  show (x.toBitVec &&& (y.toBitVec ^^^ (18446744073709551615:UInt64).toBitVec)).toNat=_
  have e:y.toBitVec ^^^ (18446744073709551615:UInt64).toBitVec = ~~~ y.toBitVec:=by
   rw [show (18446744073709551615:UInt64).toBitVec=BitVec.allOnes 64 from rfl,BitVec.xor_allOnes]
  rw [e]
 rw [this];have:=(x.toBitVec &&& ~~~ y.toBitVec).isLt;omega
attribute [local go_sem ↓] ZhM
def maxW (a b:UInt64):UInt64:=if sltW a b then b else a
def reluW (a:UInt64):UInt64:=if sltW a 0 then 0 else a
theorem ZhN (a b:UInt64):xorW a (andW (xorW a b) (negW (andW (oneW (sltW a b)) 1)))=maxW a b:=ZkR a b (sltW a b)
theorem Zgt (a:UInt64):andW a (notW (negW (andW (shrW a 63) 1)))=reluW a:=by
 rw [ZkT];unfold reluW
 cases sltW a 0 with
 | true=>
  rw [if_pos rfl,if_pos rfl,Ze4];have:notW onesW=0:=by unfold notW xorW onesW;decide
  rw [this,ZcR,Zfa]
 | false=>
  have h:(if (false:Bool)=true then (1:UInt64) else 0)=0:=rfl
  rw [h,ZdR];have:notW 0=onesW:=by unfold notW xorW onesW;decide
  rw [this,ZcR,Zgs];rfl
attribute [irreducible] maxW reluW
theorem ZkU (a b:UInt64) (w:World):Calls Tryz.prog 184 #[U a,U b] w fun e w'=>e=.returned (U (negW a))∧w=w':=by
 go_enter Tryz.func184,Tryz.ntmps184
 go_wp2
 go_ret;exact ⟨rfl,rfl⟩
theorem ZkV (a b:UInt64) (w:World):Calls Tryz.prog 185 #[U a,U b] w fun e w'=>e=.returned (U (addW a b))∧w=w':=by
 go_enter Tryz.func185,Tryz.ntmps185
 go_wp2
 go_ret;exact ⟨rfl,rfl⟩
theorem ZkW (a b:UInt64) (w:World):Calls Tryz.prog 186 #[U a,U b] w fun e w'=>e=.returned (U (subW a b))∧w=w':=by
 go_enter Tryz.func186,Tryz.ntmps186
 go_wp2
 go_ret;exact ⟨rfl,rfl⟩
theorem ZkX (a b:UInt64) (w:World):Calls Tryz.prog 187 #[U a,U b] w fun e w'=>e=.returned (U (mulW a b))∧w=w':=by
 go_enter Tryz.func187,Tryz.ntmps187
 go_wp2
 go_ret;exact ⟨rfl,rfl⟩
theorem ZkY (a b:UInt64) (c num:Nat) (w:World) (h:num≤63) (i:w.cell? ⟨c,2,none⟩=some (.int .u64 (num:Int))):Calls Tryz.prog 188 #[U a,U b,.pointer (some ⟨c,0,none⟩)] w fun e w'=>e=.returned (U (sarW a num))∧w=w':=by
 have j:IntKind.i64.wrap (num:Int)=(num:Int):=ZaE (by omega) (by omega)
 have d:=Kz (Zjd a num w);have g:(min (max (num:Int) 0) 63).toNat=num:=by omega
 rw [g] at d;clear g
 go_enter Tryz.func188,Tryz.ntmps188
 go_wp2_with (go_at_call 189;refine d.o.mono ?_;rintro e w' ⟨rfl,rfl⟩)
 go_ret;exact ⟨rfl,rfl⟩
theorem ZkZ (a b:UInt64) (w:World):Calls Tryz.prog 190 #[U a,U b] w fun e w'=>e=.returned (U (reluW a))∧w=w':=by
 go_enter Tryz.func190,Tryz.ntmps190
 go_wp2_with (go_at_call 159;refine (Zdj _ _).mono ?_;rintro e w' ⟨rfl,rfl⟩)
 go_ret;exact ⟨by rw [←Zgt];rfl,rfl⟩
theorem Zla (a b:UInt64) (w:World):Calls Tryz.prog 191 #[U a,U b] w fun e w'=>e=.returned (U (maxW a b))∧w=w':=by
 go_enter Tryz.func191,Tryz.ntmps191
 go_wp2_with (first | (go_at_call 183;refine (Zd9 _ _ _).mono ?_;rintro e w' ⟨rfl,rfl⟩) | (go_at_call 159;refine (Zdj _ _).mono ?_;rintro e w' ⟨rfl,rfl⟩))
 go_ret;exact ⟨by rw [←ZhN];rfl,rfl⟩
theorem Zm4 (a b:UInt64) (w:World):Calls Tryz.prog 157 #[U a,U b] w fun e w'=>e=.returned (U (xorW a b))∧w=w':=by
 go_enter Tryz.func157,Tryz.ntmps157
 go_wp2
 go_ret;exact ⟨rfl,rfl⟩
theorem Zm5 (a b:UInt64) (w:World):Calls Tryz.prog 158 #[U a,U b] w fun e w'=>e=.returned (U (andW (negW (andW a 1)) b))∧w=w':=by
 go_enter Tryz.func158,Tryz.ntmps158
 go_wp2_with (go_at_call 159;refine (Zdj _ _).mono ?_;rintro e w' ⟨rfl,rfl⟩)
 go_ret;exact ⟨rfl,rfl⟩
theorem Zm6 (a b:UInt64) (w:World):Calls Tryz.prog 160 #[U a,U b] w fun e w'=>e=.returned (U (xorW a b))∧w=w':=by
 go_enter Tryz.func160,Tryz.ntmps160
 go_wp2
 go_ret;exact ⟨rfl,rfl⟩
end Go.Proofs.YtghlnncfigkkaaaGreatDoor
namespace Go.Proofs.YtghlnncfigkkaaaGreatDoor
open Go.RowKit
attribute [local go_sem ↓] Zcg Zc4 ZbA Zch
theorem Zjh:(Tryz.prog.info? 39).map (fun i=>(i.zero,i.size,i.bytes))=some (some (.int .u64 0),1,8):=by kernel_rfl
theorem Zdk (n:Nat) (i:n≤1099511627776) (w:World) (e:Int) (a:e=n):
  (Instr.makeSlice 40 (.int .i64 e) (.int .i64 e)).run Tryz.prog w=.ok (.slice (some ⟨w.heap.size,0,none⟩) n n) (w.alloc (.cells ((ZbV n).map U).toArray 39)):=by
 obtain ⟨b,c,d,f,g⟩:=info_parts Zjh;have h:=run_make (P := Tryz.prog) w 40 39 b (.int .u64 0) Tryz.underlying40 c d .i64 .i64 e e (by omega) (by omega) (by rw [g];omega) (by omega)
 rw [h,a,f];have:(madeCells (Value.int .u64 0).cells ((n:Int).toNat*1))=((ZbV n).map U).toArray:=by
  apply Array.ext';rw [show (Value.int .u64 0).cells=#[Value.int .u64 0] from rfl,toList_madeCells_one]
  unfold ZbV;simp
 rw [this];rfl
theorem Zm7 (A C:Option Addr) (c R:Nat) (l g:List UInt64) (m k n:Nat) (w:World)
  (a9:1≤m) (D:m≤1024) (b0:1≤k) (E:k≤1024) (b1:1≤n) (F:n≤1024) (y:l.length=m*k) (z:g.length=k*n)
  (H:Rd w w.heap.size A (l.map U)) (I:Rd w w.heap.size C (g.map U)):
  Calls Tryz.prog 182 #[.slice A l.length c,.slice C g.length R,.int .i64 m,.int .i64 k,.int .i64 n] w fun e w'=>
   e=.returned (.tuple #[.slice (some ⟨w.heap.size,0,none⟩) (m*n) (m*n),.nilIface])∧BlkW w' 39 w.heap.size (matW l g m k n)∧Below w.heap.size w w':=by
 have b2:m*n≤1048576:=Nat.mul_le_mul D F;have S:m*k≤1048576:=Nat.mul_le_mul D E;have T:k*n≤1048576:=Nat.mul_le_mul E F;have V:((l.length:Int) != (m:Int)*(k:Int))=false:=by rw [y];simp
 have W:((g.length:Int) != (k:Int)*(n:Int))=false:=by rw [z];simp
 have J:=Kz y;have L:=Kz z;clear y z;have X:decide ((m:Int)<1)=false:=by simp;omega
 have Y:decide ((1024:Int)<(m:Int))=false:=by simp;omega
 have Z:decide ((k:Int)<1)=false:=by simp;omega
 have q4:decide ((1024:Int)<(k:Int))=false:=by simp;omega
 have q5:decide ((n:Int)<1)=false:=by simp;omega
 have q6:decide ((1024:Int)<(n:Int))=false:=by simp;omega
 have a0:=fun w=>Zdk (m*n) (by omega) w ((m:Int)*(n:Int)) (by simp)
 go_enter Tryz.func182,Tryz.ntmps182
 go_wp2
 clear a0 V W X Y Z q4 q5 q6
 go_loopw [60] (fun i wr=>∃ p:Nat,p≤m∧i=.int .i64 p∧BlkW wr 39 w.heap.size (stW l g m k n (p*n) 0)∧Below w.heap.size w wr) (fun i _=>m-(intOf i).toNat)
 case atStart=>exact ⟨0,by omega,rfl,by rw [Nat.zero_mul,←Zjc];exact Kac w _,(Kai _ _).alloc (Kag _) _⟩
 case round=>
  obtain ⟨p,b3,rfl,a,d⟩:=hrel;obtain ⟨M,rfl⟩:∃ M:World,M=wr:=⟨_,rfl⟩
  by_cases B:p<m
  ·go_wp2
   go_loopw [64] (fun j wr=>∃ q:Nat,q≤n∧j=.int .i64 q∧BlkW wr 39 w.heap.size (stW l g m k n (p*n+q) 0)∧Below w.heap.size w wr) (fun j _=>n-(intOf j).toNat)
   case atStart=>exact ⟨0,by omega,rfl,a,d⟩
   case round=>
    clear a d;obtain ⟨q,b4,rfl,a,d⟩:=hrel;obtain ⟨N,rfl⟩:∃ N:World,N=wr:=⟨_,rfl⟩
    by_cases a1:q<n
    ·go_wp2
     go_loopw [68] (fun t wr=>∃ s:Nat,s≤k∧t=.int .i64 s∧BlkW wr 39 w.heap.size (stW l g m k n (p*n+q) s)∧Below w.heap.size w wr) (fun t _=>k-(intOf t).toNat)
     case atStart=>exact ⟨0,by omega,rfl,a,d⟩
     case round=>
      clear a d;obtain ⟨s,b5,rfl,a,d⟩:=hrel
      by_cases a2:s<k
      ·have f1:p*n+q<m*n:=by
        have x:(p+1)*n≤m*n:=Nat.mul_le_mul_right n B;rw [Nat.add_mul] at x;omega
       have f2:p*k+s<l.length:=by
        have x:(p+1)*k≤m*k:=Nat.mul_le_mul_right k B;rw [Nat.add_mul] at x;rw [J.o];omega
       have f3:s*n+q<g.length:=by
        have x:(s+1)*n≤k*n:=Nat.mul_le_mul_right n a2;rw [Nat.add_mul] at x;rw [L.o];omega
       have f4:l.length≤1048576:=by rw [J.o];exact S
       have f5:g.length≤1048576:=by rw [L.o];exact T
       obtain ⟨b,o,a3,a4,O⟩:=H.word f2;obtain ⟨P,a5,a6,a7,Q⟩:=I.word f3;have g1:wr.cell? ⟨b,o+(p*k+s),none⟩=some (U (nthW l (p*k+s))):=(d.cell (p:=⟨b,_,none⟩) a4).trans O;have g2:wr.cell? ⟨P,a5+(s*n+q),none⟩=some (U (nthW g (s*n+q))):=(d.cell (p:=⟨P,_,none⟩) a7).trans Q;have g3:=a.cell (k:=p*n+q) (by rw [Za9];exact f1)
       have g4:=a.free (p*n+q);have a8:=Kz (ZkP l g m k n p q s B a1);have r:=Kz a;have v:=Kz d;clear H I O Q a d;subst a3 a6
       go_wp2
       go_region
       go_wp2
       exact ⟨⟨s+1,by omega,by go_num,by have h:=r.o.set (p*n+q) (addW (nthW (stW l g m k n (p*n+q) s) (p*n+q)) (mulW (nthW l (p*k+s)) (nthW g (s*n+q))));rw [a8.o] at h;exact h.drew,(v.o.setCell (p:=⟨w.heap.size,p*n+q,none⟩) (Kag _) _).drew⟩,by simp [intOf];omega⟩
      ·obtain rfl:s=k:=by omega
       rw [ZkO] at a;have r:=Kz a;have v:=Kz d;clear a d
       go_wp2
       exact ⟨⟨q+1,by omega,by go_num,r.o,v.o⟩,by simp [intOf];omega⟩
    ·obtain rfl:q=n:=by omega
     have e:p*q+q=(p+1)*q:=by rw [Nat.add_mul,Nat.one_mul]
     rw [e] at a;have r:=Kz a;have v:=Kz d;clear a d e
     go_wp2
     exact ⟨⟨p+1,by omega,by go_num,r.o,v.o⟩,by simp [intOf];omega⟩
  ·obtain rfl:p=m:=by omega
   rw [Zm0] at a;have r:=Kz a;have v:=Kz d;clear a d
   go_wp2
   go_ret2;exact ⟨rfl,r.o,v.o⟩
end Go.Proofs.YtghlnncfigkkaaaGreatDoor
