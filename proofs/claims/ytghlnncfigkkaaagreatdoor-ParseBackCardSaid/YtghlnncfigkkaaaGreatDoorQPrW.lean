/-
  twainref13.word: a number's digits. append of strings onto rows of the call's own: the general law at this program's types. twainref13.Expr: an expression's text. twainref13.Print: a tree's text.
-/
import Derived.Test.YtghlnncfigkkaaaGreatDoorQMem
import Derived.Test.YtghlnncfigkkaaaGreatDoorQApp
import Derived.Test.YtghlnncfigkkaaaGreatDoorQByt
import Derived.Test.YtghlnncfigkkaaaGreatDoorQTakeL
import Derived.Test.YtghlnncfigkkaaaGreatDoorQTree
import Derived.Test.YtghlnncfigkkaaaGreatDoorQPbA
import Derived.Test.YtghlnncfigkkaaaGreatDoorRows
import Derived.Deep.OwnRows
import Derived.Deep.RegionHeld3
import Derived.Deep.RegionWith
import Derived.BigQuiet
namespace Go.Proofs.YtghlnncfigkkaaaGreatDoor
set_option linter.unusedVariables false
set_option linter.unusedSimpArgs false
open Go.RowKit
def PWordRel (W : World) (n : Nat) (nv sv : Value) (wr : World) : Prop := ∃ (m : Nat) (l : List UInt8), m ≤ n ∧ nv = .int .u64 m ∧ sv = .string (strB l) ∧ decL m ++ l = decL n ∧ Below W.heap.size W wr
def natOf : Value → Nat
 | .int _ n => n.toNat
 | _ => 0
theorem strB_append (a b : List UInt8) : strB a ++ strB b = strB (a ++ b) := by
 apply ByteArray.ext
 apply Array.ext'
 rw [ByteArray.data_append, Array.toList_append, strB_data, strB_data, strB_data]
theorem conv_one (wr : World) (d : Nat) (hd : d < 10) (x : Int) (hx : x = 48 + (d : Int)) :
  (convert 162 9 (.slice (some ⟨wr.heap.size, 0, none⟩) 1 1)).run Tryz.prog (wr.alloc (.cells #[.int .u8 x] 5)) = .ok (.string (strB [UInt8.ofNat (48 + d)])) (wr.alloc (.cells #[.int .u8 x] 5)) := by
 have hv : (.int .u8 x : Value) = V8 (UInt8.ofNat (48 + d)) := by
  show Value.int .u8 x = Value.int .u8 ((UInt8.ofNat (48 + d)).toNat : Int)
  rw [dig_val hd, hx]
  rfl
 rw [hv]
 have hb := heap_alloc_new wr (.cells #[V8 (UInt8.ofNat (48 + d))] 5)
 exact conv_bytes (some ⟨wr.heap.size, 0, none⟩) 1 1 [UInt8.ofNat (48 + d)] (wr.alloc (.cells #[V8 (UInt8.ofNat (48 + d))] 5)).heap.size _ rfl (Rd.of_block hb (Array.getElem?_eq_some_iff.1 hb).1 (by simp))
set_option maxRecDepth 100000 in
set_option maxHeartbeats 4000000 in
theorem pword_any (w : World) (n : Nat) (hn : n < 18446744073709551616) :
  Calls Tryz.prog 44 #[.int .u64 n] w fun e w' => e = .returned (.string (strB (decL n))) ∧ Below w.heap.size w w' := by
 go_enter Tryz.func44, Tryz.ntmps44
 go_wp2
 go_loopw [0, 3] (fun nv sv wr => PWordRel w n nv sv wr) (fun nv _ _ => natOf nv)
 case atStart => exact ⟨n, [], Nat.le_refl _, rfl, by first | rfl | (show Value.string _ = _; congr 1; apply ByteArray.ext; apply Array.ext'; rw [strB_data]), List.append_nil _, Below.refl _ _⟩
 case round =>
  obtain ⟨m, l, hm, rfl, rfl, hl, hb⟩ := hrel
  have HL := Lib.hid hl
  have HB := Lib.hid hb
  clear hl hb
  have hlen : (strB l).size ≤ 20 := by
   have h1 := decL_len 19 n (by omega)
   rw [← HL.out, List.length_append] at h1
   rw [strB_size]
   omega
  by_cases hlt : 10 ≤ m
  ·have q0 : decide ((10 : Int) ≤ (m : Int)) = true := decide_eq_true (by omega)
   have cv := conv_one wr (m % 10) (by omega) (48 + (m : Int) % 10) (by omega)
   obtain ⟨c, hc⟩ : ∃ c, c = UInt8.ofNat (48 + m % 10) := ⟨_, rfl⟩
   rw [← hc] at cv
   have HC := Lib.hid hc
   have hsz : ¬ 9223372036854775807 < (strB [c]).size + (strB l).size := by rw [strB_size [c]]; simp; omega
   clear hc hlen
   go_wp2
   refine ⟨⟨m / 10, c :: l, by omega, rfl, ?_, ?_, HB.out.alloc HB.out.size _⟩, ?_⟩
   ·rw [strB_append]
    rfl
   ·rw [← HL.out, decL_big hlt, List.append_assoc, HC.out]
    rfl
   ·show ((m : Int) / 10).toNat < (m : Int).toNat
    omega
  ·have q0 : decide ((10 : Int) ≤ (m : Int)) = false := decide_eq_false (by omega)
   have cv := conv_one wr m (by omega) (48 + (m : Int)) rfl
   obtain ⟨c, hc⟩ : ∃ c, c = UInt8.ofNat (48 + m) := ⟨_, rfl⟩
   rw [← hc] at cv
   have HC := Lib.hid hc
   have hsz : ¬ 9223372036854775807 < (strB [c]).size + (strB l).size := by rw [strB_size [c]]; simp; omega
   clear hc hlen
   go_wp2
   go_ret
   refine ⟨?_, HB.out.alloc HB.out.size _⟩
   show Ending.returned (.string (strB [c] ++ strB l)) = _
   rw [strB_append, ← HL.out, decL_small (by omega), HC.out]
theorem appT_info : (Tryz.prog.info? 9).map (fun i => (i.zero, i.size, i.bytes)) = some (some (.string ⟨#[]⟩), 1, 16) := by kernel_rfl
theorem appT_ones (l : List ByteArray) : ∀ u ∈ l.map Value.string, u.oneCell' = true := by
 intro v hv
 obtain ⟨x, _, rfl⟩ := List.mem_map.1 hv
 rfl
theorem appT_step {w : World} {ops : Array Oper} {o : Oper} {a : Act} {K : Act → World → Prop} {Q : Exit → Act → World → Prop} {E : Prop} (hgd : o.guard = none) (s x : Operand)
  (ho : o.op = .call { callee := .builtin .append, args := #[s, x], argTypes := #[163, 163] }) (base : Nat)
  (A : Option Addr) (cap : Nat) (xs : List ByteArray) (n : Nat) (hn : xs.length = n) (hs : a.eval s = .slice A n cap) (hown : Own w base 9 A cap (xs.map Value.string))
  (A2 : Option Addr) (m c B : Nat) (news : List ByteArray) (hm : news.length = m) (hx : a.eval x = .slice A2 m c) (hr : Rd w B A2 (news.map Value.string)) (hnil : A2 = none → m = 0)
  (hbytes : n + m ≤ 13194139533312) (hbase : base ≤ w.heap.size)
  (h : ∀ A' cap' w', Own w' base 9 A' cap' ((xs ++ news).map Value.string) → w.grownBy w' (blk A) → (blk A' = blk A ∨ blk A' = some w.heap.size) → K (a.put o.dst (.slice A' (n + m) cap')) w') :
  if Region.wanted o (yielded ops a.tmps) = true then Oper.wp Tryz.prog o a w K Q else E := by
 obtain ⟨i0, hi0, hz0, hz1, hz2⟩ := info_parts appT_info
 refine step_app hgd s x 163 ho base 9 i0 _ 16 Tryz.underlying163 hi0 hz0 hz1 hz2 rfl A cap (xs.map Value.string) n (by rw [List.length_map]; exact hn) hs hown A2 m c B (news.map Value.string) (by rw [List.length_map]; exact hm) hx hr hnil (appT_ones _) (by simp only [maxLen]; omega) (by omega) hbase ?_
 intro A' cap' w' h1 h2 h3
 rw [← List.map_append] at h1
 exact h A' cap' w' h1 h2 h3
theorem trl_mem {es : List Ex} {a c : Nat} {l : List Nat} (h : TrL es a c l) : ∀ x ∈ l, ∃ lo, TrL es lo (x + 1) [x] ∧ x < c := by
 induction h with
 | nil => intro x hx; cases hx
 | snoc a b r l e h1 he hr ih ihr =>
  intro x hx
  rcases List.mem_append.1 hx with hx | hx
  ·obtain ⟨lo, h2, h3⟩ := ih x hx
   have := hr.le.1
   exact ⟨lo, h2, by omega⟩
  ·rw [List.mem_singleton.1 hx]
   exact ⟨b, TrL.one he hr, Nat.lt_succ_self _⟩
theorem made_args {L : List Tok} {e : Ex} (h : MadeE L e) : e.args.length ≤ 3 := by
 rcases h with ⟨_, _, h, _⟩ | ⟨_, _, h, _⟩ | ⟨_, _, _, h, _⟩
 ·rw [h]; exact Nat.zero_le _
 ·rw [h]; exact Nat.zero_le _
 ·rw [h]
  unfold mkN
  repeat' split
  all_goals omega
def strE (es : List Ex) (F n : Nat) : ByteArray := strB (wideL (tight (prE es F n)))
theorem str_ext {a b : ByteArray} (h : a.data.toList = b.data.toList) : a = b := ByteArray.ext (Array.ext' h)
theorem wideL_app (a b : List (Tok × List UInt8)) : wideL (a ++ b) = wideL a ++ wideL b := by unfold wideL; rw [List.flatMap_append]
theorem wideL_nil : wideL [] = [] := rfl
theorem tight_nil : tight [] = [] := rfl
section
variable {es : List Ex} {F n : Nat} {e : Ex}
theorem tx_tOpen : (sgT tOpen).text.data.toList = [40] := rfl
theorem tx_tShut : (sgT tShut).text.data.toList = [41] := rfl
theorem tx_tMinus : (sgT tMinus).text.data.toList = [45] := rfl
theorem tx_tComma : (sgT tComma).text.data.toList = [44] := rfl
theorem tx_tShift : (sgT tShift).text.data.toList = [62, 62] := rfl
theorem tx_op4 : (sgT (opT 4)).text.data.toList = [43] := rfl
theorem tx_op5 : (sgT (opT 5)).text.data.toList = [45] := rfl
theorem tx_op6 : (sgT (opT 6)).text.data.toList = [42] := rfl
theorem tx_op7 : (sgT (opT 7)).text.data.toList = [64] := rfl
theorem tx_op8 : (sgT (opT 8)).text.data.toList = [60] := rfl
theorem tx_fn10 : (kwT (fnT 10)).text.data.toList = [114, 101, 108, 117] := rfl
theorem tx_fn11 : (kwT (fnT 11)).text.data.toList = [115, 117, 109] := rfl
theorem tx_fn12 : (kwT (fnT 12)).text.data.toList = [97, 114, 103, 109, 97, 120] := rfl
theorem tx_fn13 : (kwT (fnT 13)).text.data.toList = [109, 97, 120] := rfl
theorem tx_fn14 : (kwT (fnT 14)).text.data.toList = [109, 117, 120] := rfl
theorem tx_num (m : Nat) : (numT m).text.data.toList = decL m := rfl
theorem tx_name (m : ByteArray) : (nmT m).text.data.toList = m.data.toList := rfl
theorem strE_1 (he : es[n]? = some e) (hk : e.kind = 1) : strE es (F + 1) n = strB (decL e.num) := by
 unfold strE
 rw [prE, he]
 dsimp only
 rw [if_pos hk, tight_cons, tight_nil, wide_cons, tx_num, wideL_nil, List.nil_append, List.append_nil]
theorem strE_2 (he : es[n]? = some e) (hk : e.kind = 2) : strE es (F + 1) n = e.name := by
 unfold strE
 rw [prE, he]
 dsimp only
 rw [if_neg (by omega), if_pos hk, tight_cons, tight_nil, wide_cons, tx_name, wideL_nil, List.nil_append, List.append_nil]
 apply str_ext
 rw [strB_data]
theorem strE_3 {x : Nat} (he : es[n]? = some e) (hk : e.kind = 3) (hx : e.args = [x]) : strE es (F + 1) n = ({ data := #[40, 45] } : ByteArray) ++ strE es F x ++ ({ data := #[41] } : ByteArray) := by
 apply str_ext
 unfold strE
 rw [prE, he]
 dsimp only
 rw [if_neg (by omega), if_neg (by omega), if_pos hk, hx]
 simp only [tight_cons, tight_append, tight_nil, wide_cons, wideL_app, wideL_nil, strB_data, ByteArray.data_append, Array.toList_append, List.nil_append, List.append_nil, List.append_assoc, List.cons_append, tx_tOpen, tx_tShut, tx_tMinus, tx_tComma, tx_tShift, tx_num]
 rfl
theorem strE_4 {x y : Nat} (he : es[n]? = some e) (hk : e.kind = 4) (hx : e.args = [x, y]) : strE es (F + 1) n = ({ data := #[40] } : ByteArray) ++ strE es F x ++ ({ data := #[43] } : ByteArray) ++ strE es F y ++ ({ data := #[41] } : ByteArray) := by
 apply str_ext
 unfold strE
 rw [prE, he]
 dsimp only
 rw [if_neg (by omega), if_neg (by omega), if_neg (by omega), if_pos (by omega), hx, hk]
 simp only [tight_cons, tight_append, tight_nil, wide_cons, wideL_app, wideL_nil, strB_data, ByteArray.data_append, Array.toList_append, List.nil_append, List.append_nil, List.append_assoc, List.cons_append, tx_tOpen, tx_tShut, tx_tMinus, tx_tComma, tx_tShift, tx_num, tx_op4]
 rfl
theorem strE_5 {x y : Nat} (he : es[n]? = some e) (hk : e.kind = 5) (hx : e.args = [x, y]) : strE es (F + 1) n = ({ data := #[40] } : ByteArray) ++ strE es F x ++ ({ data := #[45] } : ByteArray) ++ strE es F y ++ ({ data := #[41] } : ByteArray) := by
 apply str_ext
 unfold strE
 rw [prE, he]
 dsimp only
 rw [if_neg (by omega), if_neg (by omega), if_neg (by omega), if_pos (by omega), hx, hk]
 simp only [tight_cons, tight_append, tight_nil, wide_cons, wideL_app, wideL_nil, strB_data, ByteArray.data_append, Array.toList_append, List.nil_append, List.append_nil, List.append_assoc, List.cons_append, tx_tOpen, tx_tShut, tx_tMinus, tx_tComma, tx_tShift, tx_num, tx_op5]
 rfl
theorem strE_6 {x y : Nat} (he : es[n]? = some e) (hk : e.kind = 6) (hx : e.args = [x, y]) : strE es (F + 1) n = ({ data := #[40] } : ByteArray) ++ strE es F x ++ ({ data := #[42] } : ByteArray) ++ strE es F y ++ ({ data := #[41] } : ByteArray) := by
 apply str_ext
 unfold strE
 rw [prE, he]
 dsimp only
 rw [if_neg (by omega), if_neg (by omega), if_neg (by omega), if_pos (by omega), hx, hk]
 simp only [tight_cons, tight_append, tight_nil, wide_cons, wideL_app, wideL_nil, strB_data, ByteArray.data_append, Array.toList_append, List.nil_append, List.append_nil, List.append_assoc, List.cons_append, tx_tOpen, tx_tShut, tx_tMinus, tx_tComma, tx_tShift, tx_num, tx_op6]
 rfl
theorem strE_7 {x y : Nat} (he : es[n]? = some e) (hk : e.kind = 7) (hx : e.args = [x, y]) : strE es (F + 1) n = ({ data := #[40] } : ByteArray) ++ strE es F x ++ ({ data := #[64] } : ByteArray) ++ strE es F y ++ ({ data := #[41] } : ByteArray) := by
 apply str_ext
 unfold strE
 rw [prE, he]
 dsimp only
 rw [if_neg (by omega), if_neg (by omega), if_neg (by omega), if_pos (by omega), hx, hk]
 simp only [tight_cons, tight_append, tight_nil, wide_cons, wideL_app, wideL_nil, strB_data, ByteArray.data_append, Array.toList_append, List.nil_append, List.append_nil, List.append_assoc, List.cons_append, tx_tOpen, tx_tShut, tx_tMinus, tx_tComma, tx_tShift, tx_num, tx_op7]
 rfl
theorem strE_8 {x y : Nat} (he : es[n]? = some e) (hk : e.kind = 8) (hx : e.args = [x, y]) : strE es (F + 1) n = ({ data := #[40] } : ByteArray) ++ strE es F x ++ ({ data := #[60] } : ByteArray) ++ strE es F y ++ ({ data := #[41] } : ByteArray) := by
 apply str_ext
 unfold strE
 rw [prE, he]
 dsimp only
 rw [if_neg (by omega), if_neg (by omega), if_neg (by omega), if_pos (by omega), hx, hk]
 simp only [tight_cons, tight_append, tight_nil, wide_cons, wideL_app, wideL_nil, strB_data, ByteArray.data_append, Array.toList_append, List.nil_append, List.append_nil, List.append_assoc, List.cons_append, tx_tOpen, tx_tShut, tx_tMinus, tx_tComma, tx_tShift, tx_num, tx_op8]
 rfl
theorem strE_9 {x : Nat} (he : es[n]? = some e) (hk : e.kind = 9) (hx : e.args = [x]) : strE es (F + 1) n = ({ data := #[40] } : ByteArray) ++ strE es F x ++ ({ data := #[62, 62] } : ByteArray) ++ strB (decL e.num) ++ ({ data := #[41] } : ByteArray) := by
 apply str_ext
 unfold strE
 rw [prE, he]
 dsimp only
 rw [if_neg (by omega), if_neg (by omega), if_neg (by omega), if_neg (by omega), if_pos hk, hx]
 simp only [tight_cons, tight_append, tight_nil, wide_cons, wideL_app, wideL_nil, strB_data, ByteArray.data_append, Array.toList_append, List.nil_append, List.append_nil, List.append_assoc, List.cons_append, tx_tOpen, tx_tShut, tx_tMinus, tx_tComma, tx_tShift, tx_num]
 rfl
theorem strE_10 {x : Nat} (he : es[n]? = some e) (hk : e.kind = 10) (hx : e.args = [x]) : strE es (F + 1) n = ({ data := #[114, 101, 108, 117, 40] } : ByteArray) ++ strE es F x ++ ({ data := #[41] } : ByteArray) := by
 apply str_ext
 unfold strE
 rw [prE, he]
 dsimp only
 rw [if_neg (by omega), if_neg (by omega), if_neg (by omega), if_neg (by omega), if_neg (by omega), if_pos (by omega), hx, hk]
 simp only [tight_cons, tight_append, tight_nil, wide_cons, wideL_app, wideL_nil, strB_data, ByteArray.data_append, Array.toList_append, List.nil_append, List.append_nil, List.append_assoc, List.cons_append, tx_tOpen, tx_tShut, tx_tMinus, tx_tComma, tx_tShift, tx_num, tx_fn10]
 rfl
theorem strE_11 {x : Nat} (he : es[n]? = some e) (hk : e.kind = 11) (hx : e.args = [x]) : strE es (F + 1) n = ({ data := #[115, 117, 109, 40] } : ByteArray) ++ strE es F x ++ ({ data := #[41] } : ByteArray) := by
 apply str_ext
 unfold strE
 rw [prE, he]
 dsimp only
 rw [if_neg (by omega), if_neg (by omega), if_neg (by omega), if_neg (by omega), if_neg (by omega), if_pos (by omega), hx, hk]
 simp only [tight_cons, tight_append, tight_nil, wide_cons, wideL_app, wideL_nil, strB_data, ByteArray.data_append, Array.toList_append, List.nil_append, List.append_nil, List.append_assoc, List.cons_append, tx_tOpen, tx_tShut, tx_tMinus, tx_tComma, tx_tShift, tx_num, tx_fn11]
 rfl
theorem strE_12 {x : Nat} (he : es[n]? = some e) (hk : e.kind = 12) (hx : e.args = [x]) : strE es (F + 1) n = ({ data := #[97, 114, 103, 109, 97, 120, 40] } : ByteArray) ++ strE es F x ++ ({ data := #[41] } : ByteArray) := by
 apply str_ext
 unfold strE
 rw [prE, he]
 dsimp only
 rw [if_neg (by omega), if_neg (by omega), if_neg (by omega), if_neg (by omega), if_neg (by omega), if_pos (by omega), hx, hk]
 simp only [tight_cons, tight_append, tight_nil, wide_cons, wideL_app, wideL_nil, strB_data, ByteArray.data_append, Array.toList_append, List.nil_append, List.append_nil, List.append_assoc, List.cons_append, tx_tOpen, tx_tShut, tx_tMinus, tx_tComma, tx_tShift, tx_num, tx_fn12]
 rfl
theorem strE_13 {x y : Nat} (he : es[n]? = some e) (hk : e.kind = 13) (hx : e.args = [x, y]) : strE es (F + 1) n = ({ data := #[109, 97, 120, 40] } : ByteArray) ++ strE es F x ++ ({ data := #[44] } : ByteArray) ++ strE es F y ++ ({ data := #[41] } : ByteArray) := by
 apply str_ext
 unfold strE
 rw [prE, he]
 dsimp only
 rw [if_neg (by omega), if_neg (by omega), if_neg (by omega), if_neg (by omega), if_neg (by omega), if_neg (by omega), if_pos hk, hx, hk]
 simp only [tight_cons, tight_append, tight_nil, wide_cons, wideL_app, wideL_nil, strB_data, ByteArray.data_append, Array.toList_append, List.nil_append, List.append_nil, List.append_assoc, List.cons_append, tx_tOpen, tx_tShut, tx_tMinus, tx_tComma, tx_tShift, tx_num, tx_fn13]
 rfl
theorem strE_14 {x y z : Nat} (he : es[n]? = some e) (hk : e.kind = 14) (hx : e.args = [x, y, z]) : strE es (F + 1) n = ({ data := #[109, 117, 120, 40] } : ByteArray) ++ strE es F x ++ ({ data := #[44] } : ByteArray) ++ strE es F y ++ ({ data := #[44] } : ByteArray) ++ strE es F z ++ ({ data := #[41] } : ByteArray) := by
 apply str_ext
 unfold strE
 rw [prE, he]
 dsimp only
 rw [if_neg (by omega), if_neg (by omega), if_neg (by omega), if_neg (by omega), if_neg (by omega), if_neg (by omega), if_neg (by omega), hx, hk]
 simp only [tight_cons, tight_append, tight_nil, wide_cons, wideL_app, wideL_nil, strB_data, ByteArray.data_append, Array.toList_append, List.nil_append, List.append_nil, List.append_assoc, List.cons_append, tx_tOpen, tx_tShut, tx_tMinus, tx_tComma, tx_tShift, tx_num, tx_fn14]
 rfl
end
def ExprTxt (es : List Ex) (SA : Option Addr) (ns sc : Nat) (EA : Option Addr) (ne ec : Nat) (F n : Nat) (w : World) : Prop :=
 Calls Tryz.prog 45 #[.agg #[.slice SA ns sc, .slice EA ne ec], .int .i64 n] w fun e w' => e = .returned (.string (strE es F n)) ∧ Below w.heap.size w w'
theorem strE_size {L0 : List Tok} {es : List Ex} (hm : ∀ e ∈ es, MadeE L0 e) (hno : NumsOk es) (n F lo : Nat) (hF : n < F) (h : TrL es lo (n + 1) [n]) : (strE es F n).size ≤ 105 * (n + 1) := by
 have h1 := prE_count hm n F lo hF h
 have h2 := wide_short (tight (prE es F n)) (AllSt.tight (prE_short hno F n))
 unfold strE
 rw [strB_size]
 rw [tight_length] at h2
 omega
theorem es9_next {wr W W' : World} {g lb lo : Nat} {u v : Value} (h : W.cell? ⟨g, 2, none⟩ = some u ∧ W.cell? ⟨lb, lo, none⟩ = some v ∧ Below wr.heap.size wr W) (hb : Below W.heap.size W W') (h1 : g < wr.heap.size) (h2 : lb < wr.heap.size) : W'.cell? ⟨g, 2, none⟩ = some u ∧ W'.cell? ⟨lb, lo, none⟩ = some v ∧ Below wr.heap.size wr W' :=
 ⟨(hb.cell (p := ⟨g, 2, none⟩) (Nat.lt_of_lt_of_le h1 h.2.2.size)).trans h.1, (hb.cell (p := ⟨lb, lo, none⟩) (Nat.lt_of_lt_of_le h2 h.2.2.size)).trans h.2.1, bnext h.2.2 hb⟩
def ArgTRel (w2 : World) (es : List Ex) (F : Nat) (args : List Nat) (lv iv : Value) (wr : World) : Prop := ∃ (k : Nat) (A : Option Addr) (c : Nat), k ≤ args.length ∧ iv = .int .i64 k ∧ lv = .slice A k c ∧ Own wr w2.heap.size 9 A c (((args.take k).map (strE es F)).map Value.string) ∧ Below w2.heap.size w2 wr
set_option maxRecDepth 100000 in
set_option maxHeartbeats 4000000 in
theorem expr_txt {L0 : List Tok} {es : List Ex} (hm : ∀ e ∈ es, MadeE L0 e) (hno : NumsOk es) (SA : Option Addr) (ns sc : Nat) (EA : Option Addr) (ne ec : Nat) (hne : ne = es.length) (hnl : ne ≤ 100000) :
  ∀ (n F lo : Nat) (w : World), n < F → TrL es lo (n + 1) [n] → RdE w w.heap.size EA es → ExprTxt es SA ns sc EA ne ec F n w := by
 intro n
 induction n using Nat.strongRecOn with
 | _ n ihn =>
  intro F lo w hF htr hE
  obtain ⟨F, rfl⟩ : ∃ F', F = F' + 1 := ⟨F - 1, by omega⟩
  obtain ⟨e, he, hargs⟩ := trl_one htr
  have hmade := hm e (List.mem_of_getElem? he)
  have HIH := Lib.hid (show ∀ x ∈ e.args, ∀ W : World, RdE W W.heap.size EA es → ExprTxt es SA ns sc EA ne ec F x W from fun x hx W hW => by
   obtain ⟨lo', h1, h2⟩ := trl_mem hargs x hx
   exact ihn x h2 F lo' W (by omega) h1 hW)
  have hn : n < ne := by rw [hne]; exact (List.getElem?_eq_some_iff.1 he).1
  have HEE := Lib.hid hE
  obtain ⟨b, o, hEA, hb, hx⟩ := hE.at_ he
  subst hEA
  obtain ⟨dk, dn, du, da, dp⟩ := e
  obtain ⟨c0, c1, c2, ⟨A, c, c3, c3'⟩, c4⟩ := hx
  dsimp only at c0 c1 c2 c3 c3' c4 HIH hmade
  obtain ⟨al, hal⟩ : ∃ al, al = da.length := ⟨_, rfl⟩
  rw [← hal] at c3
  have HAL := Lib.hid hal
  have HK3 := Lib.hid (show al ≤ 3 from by rw [hal]; exact made_args hmade)
  have hb1 := one_new w (.cells #[.slice SA ns sc, .slice (some ⟨b, o, none⟩) ne ec] 26)
  have x0 := (hb1.cell (p := ⟨b, o + n * 5, none⟩) hb).trans c0
  have x1 := (hb1.cell (p := ⟨b, o + n * 5 + 1, none⟩) hb).trans c1
  have x2 := (hb1.cell (p := ⟨b, o + n * 5 + 2, none⟩) hb).trans c2
  have x3 := (hb1.cell (p := ⟨b, o + n * 5 + 3, none⟩) hb).trans c3
  have x4 := (hb1.cell (p := ⟨b, o + n * 5 + 4, none⟩) hb).trans c4
  have a0 : (0 : Int) ≤ (n : Int) := by omega
  have a1 : (n : Int) < (ne : Int) := by omega
  have HMADE := Lib.hid hmade
  have HB1 := Lib.hid hb1
  have HHE := Lib.hid he
  have HARGS := Lib.hid hargs
  have HM := Lib.hid hm
  have HNO := Lib.hid hno
  have HNE := Lib.hid hne
  have HC3 := Lib.hid c3'
  have HSZ := Lib.hid (show ∀ x ∈ da, (strE es F x).size ≤ 11000000 from fun x hx => by
   obtain ⟨lo', h1, h2⟩ := trl_mem hargs x hx
   have h3 := strE_size hm hno x F lo' (by omega) h1
   omega)
  clear hmade hb1 he hargs hm hno hne c3' ihn htr hE hal c0 c1 c2 c3 c4
  unfold ExprTxt
  go_enter Tryz.func45, Tryz.ntmps45
  go_wp2
  obtain ⟨w2, hw2⟩ : ∃ w2, w2 = (w.alloc (.cells #[.slice SA ns sc, .slice (some ⟨b, o, none⟩) ne ec] 26)).alloc (.cells #[.int .i64 dk, .string dn, .int .u64 du, .slice A al c, .int .i64 dp] 90) := ⟨_, rfl⟩
  rw [← hw2]
  have hw2t : w2.heap[w.heap.size]? = some (.cells #[.slice SA ns sc, .slice (some ⟨b, o, none⟩) ne ec] 26 (0, 0)) := by
   rw [hw2]
   exact ((one_new (w.alloc (.cells #[.slice SA ns sc, .slice (some ⟨b, o, none⟩) ne ec] 26)) _).block w.heap.size (by simp)).trans (heap_alloc_new w _)
  have hw2e : w2.heap[w.heap.size + 1]? = some (.cells #[.int .i64 dk, .string dn, .int .u64 du, .slice A al c, .int .i64 dp] 90 (0, 0)) := by
   rw [hw2]
   have h9 := heap_alloc_new (w.alloc (.cells #[.slice SA ns sc, .slice (some ⟨b, o, none⟩) ne ec] 26)) (.cells #[.int .i64 dk, .string dn, .int .u64 du, .slice A al c, .int .i64 dp] 90)
   rwa [show (w.alloc (.cells #[.slice SA ns sc, .slice (some ⟨b, o, none⟩) ne ec] 26)).heap.size = w.heap.size + 1 by simp] at h9
  have hb2 : Below w.heap.size w w2 := by
   rw [hw2]
   exact (HB1.out).alloc HB1.out.size _
  have HB2 := Lib.hid hb2
  have HT2 := Lib.hid hw2t
  have HE2 := Lib.hid hw2e
  clear hw2 hw2t hw2e hb2 x0 x1 x2 x3 x4
  go_loopw [6, 16] (fun lv iv wr => ArgTRel w2 es F da lv iv wr) (fun _ iv _ => al - (intOf iv).toNat)
  case atStart => exact ⟨0, none, 0, Nat.zero_le _, rfl, rfl, Own.nil _ _ _, Below.refl _ _⟩
  case round =>
   obtain ⟨k, LA, lc, hk, rfl, rfl, hown, hb⟩ := hrel
   have HOWN := Lib.hid hown
   have HB := Lib.hid hb
   rw [← HAL.out] at hk
   have t0 := cell_of_row _ _ 0 _ _ _ ((hb.block _ (Array.getElem?_eq_some_iff.1 HT2.out).1).trans HT2.out)
   have t1 := cell_of_row _ _ 1 _ _ _ ((hb.block _ (Array.getElem?_eq_some_iff.1 HT2.out).1).trans HT2.out)
   have e0 := cell_of_row _ _ 0 _ _ _ ((hb.block _ (Array.getElem?_eq_some_iff.1 HE2.out).1).trans HE2.out)
   have e1 := cell_of_row _ _ 1 _ _ _ ((hb.block _ (Array.getElem?_eq_some_iff.1 HE2.out).1).trans HE2.out)
   have e2 := cell_of_row _ _ 2 _ _ _ ((hb.block _ (Array.getElem?_eq_some_iff.1 HE2.out).1).trans HE2.out)
   have e3 := cell_of_row _ _ 3 _ _ _ ((hb.block _ (Array.getElem?_eq_some_iff.1 HE2.out).1).trans HE2.out)
   clear hown hb
   by_cases hlt : k < al
   ·have hxk : da[k]? = some (da[k]'(by rw [← HAL.out]; exact hlt)) := List.getElem?_eq_getElem _
    obtain ⟨x, hx⟩ : ∃ x, x = da[k]'(by rw [← HAL.out]; exact hlt) := ⟨_, rfl⟩
    rw [← hx] at hxk
    have HXK := Lib.hid hxk
    obtain ⟨ab, ao, rfl, hab, xa⟩ := (HC3.out.below (bnext HB2.out HB.out)).at_ (v := I64 x) (by rw [List.getElem?_map, hxk]; rfl)
    have k0 : (0 : Int) ≤ (k : Int) := by omega
    have k1 : (k : Int) < (al : Int) := by omega
    have HCALL := Lib.hid (HIH.out x (List.mem_of_getElem? hxk))
    have HRE := Lib.hid (show ∀ W, Below wr.heap.size wr W → RdE W W.heap.size (some ⟨b, o, none⟩) es from fun W hW => (HEE.out.next (bnext HB2.out HB.out)).next hW)
    clear hx hxk
    obtain ⟨XS, hXS⟩ : ∃ XS, XS = (da.take k).map (strE es F) := ⟨_, rfl⟩
    rw [← hXS] at HOWN
    have hXl : XS.length = k := by rw [hXS, List.length_map, List.length_take, ← HAL.out]; omega
    have HXS := Lib.hid hXS
    have HXL := Lib.hid hXl
    have hk9 : k ≤ 100000 := by have := HK3.out; omega
    obtain ⟨S6, hS6⟩ : ∃ S6, S6 = strE es F x := ⟨_, rfl⟩
    have HS6 := Lib.hid hS6
    have HCX := Lib.hid (show ∀ W, Below wr.heap.size wr W → Calls Tryz.prog 45 #[.agg #[.slice SA ns sc, .slice (some ⟨b, o, none⟩) ne ec], .int .i64 x] W fun e w' => e = .returned (.string S6) ∧ Below W.heap.size W w' from fun W hW => by
     rw [hS6]
     exact HCALL.out W (HRE.out W hW))
    clear hXS hXl hS6
    go_wp2_with fail
    go_region_law (first
     | (rw [if_pos (by rfl)]; go_simp; go_at_call 45; refine (HCX.out wr.drew (Below.refl _ _).drew).mono ?_; rintro e w6 ⟨rfl, hb6⟩; have HB6 := Lib.hid (show Below wr.heap.size wr w6 from (Below.refl _ _).drew.trans hb6); clear hb6; dsimp only)
     | (refine appT_step rfl (.tmp 19) (.tmp 27) rfl w2.heap.size LA lc XS k HXL.out rfl (HOWN.out.next (HB6.out.alloc HB6.out.size _)) (some ⟨w6.heap.size, 0, none⟩) 1 1 (w6.heap.size + 1) [S6] rfl rfl (Rd.one _ _ _) (fun h => by cases h) (by omega) (Nat.le_trans HB.out.size (HB6.out.alloc HB6.out.size _).size) ?_; intro A8 c8 w8 ho8 hg8 hA8; have HO8 := Lib.hid ho8; have HB8 := Lib.hid (grown_below (bnext HB.out (HB6.out.alloc HB6.out.size _)) hg8 (Nat.le_trans HB.out.size (HB6.out.alloc HB6.out.size _).size) (fun k hk => (HOWN.out.lt k hk).1)); clear ho8 hg8 hA8; dsimp only))
    all_goals
     go_wp2
     refine ⟨⟨k + 1, A8, c8, by rw [← HAL.out]; omega, by go_num, rfl, ?_, HB8.out⟩, by simp [intOf]; omega⟩
     have h9 : (da.take (k + 1)).map (strE es F) = XS ++ [S6] := by
      rw [List.take_add_one, HXK.out, HXS.out, HS6.out, List.map_append]
      rfl
     rw [h9]
     exact HO8.out
   ·obtain rfl : k = al := by omega
    have hl : Rd wr wr.heap.size LA ((da.map (strE es F)).map Value.string) := by
     have h9 := HOWN.out.rd
     rwa [List.take_of_length_le (by rw [← HAL.out]; exact Nat.le_refl _)] at h9
    have HL := Lib.hid hl
    have HBX := Lib.hid (bnext HB2.out HB.out)
    clear hl
    rcases HMADE.out with ⟨h0, h1, h2, t, ht, htn⟩ | ⟨h0, h1, h2, t, ht, htk, htx⟩ | ⟨k1, k2, h1, h2, h3, h4⟩
    ·dsimp only at h0 h1 h2
     subst h0 h2
     have hdu := (HNO.out _ (List.mem_of_getElem? HHE.out)).1
     have HQ := Lib.hid (strE_1 (F := F) HHE.out rfl)
     dsimp only at hdu
     have HW := Lib.hid (pword_any wr du hdu)
     clear hdu h1 t ht htn
     go_wp2_with fail
     refine HW.out.mono ?_
     rintro e w9 ⟨rfl, b9⟩
     have HB9 := Lib.hid b9
     clear b9
     go_wp2
     go_ret
     exact ⟨by rw [HQ.out]; rfl, bnext HBX.out HB9.out⟩
    ·dsimp only at h0 h1 h2
     subst h0 h2
     have HQ := Lib.hid (strE_2 (F := F) HHE.out rfl)
     clear h1 t ht htk htx
     go_wp2
     go_ret
     exact ⟨by rw [HQ.out]; rfl, HBX.out⟩
    ·dsimp only at k1 k2 h1 h2 h3 h4
     have hcase : dk = 3 ∨ dk = 4 ∨ dk = 5 ∨ dk = 6 ∨ dk = 7 ∨ dk = 8 ∨ dk = 9 ∨ dk = 10 ∨ dk = 11 ∨ dk = 12 ∨ dk = 13 ∨ dk = 14 := by omega
     clear k1 k2 h1 h3
     rcases hcase with rfl | rfl | rfl | rfl | rfl | rfl | rfl | rfl | rfl | rfl | rfl | rfl
     ·obtain ⟨x, hx⟩ := len_one (h2.trans (by decide))
      subst hx
      have hk1 : k = 1 := HAL.out
      subst hk1
      have HQ := Lib.hid (strE_3 (F := F) HHE.out rfl rfl)
      obtain ⟨lb, lo', rfl, hlb, l0'⟩ := HL.out.at_ (k := 0) (v := .string (strE es F x)) rfl
      have l0 : wr.cell? ⟨lb, lo', none⟩ = some (.string (strE es F x)) := l0'
      clear l0'
      obtain ⟨S0, hS0⟩ : ∃ S, S = strE es F x := ⟨_, rfl⟩
      have hs0 : S0.size ≤ 11000000 := by rw [hS0]; exact HSZ.out x (by simp)
      rw [← hS0] at l0 HQ
      clear hS0 h2 h4 hlb
      go_wp2
      go_ret
      exact ⟨by rw [HQ.out]; rfl, HBX.out⟩
     ·obtain ⟨x, y, hx⟩ := len_two (h2.trans (by decide))
      subst hx
      have hk1 : k = 2 := HAL.out
      subst hk1
      have HQ := Lib.hid (strE_4 (F := F) HHE.out rfl rfl)
      obtain ⟨lb, lo', rfl, hlb, l0'⟩ := HL.out.at_ (k := 0) (v := .string (strE es F x)) rfl
      have l0 : wr.cell? ⟨lb, lo', none⟩ = some (.string (strE es F x)) := l0'
      clear l0'
      have l1 : wr.cell? ⟨lb, lo' + 1, none⟩ = some (.string (strE es F y)) := by
       obtain ⟨lb', lo2, h8, _, h9⟩ := HL.out.at_ (k := 1) (v := .string (strE es F y)) rfl
       injection h8 with h8
       injection h8 with h8 h7
       subst h8 h7
       exact h9
      obtain ⟨S0, hS0⟩ : ∃ S, S = strE es F x := ⟨_, rfl⟩
      have hs0 : S0.size ≤ 11000000 := by rw [hS0]; exact HSZ.out x (by simp)
      obtain ⟨S1, hS1⟩ : ∃ S, S = strE es F y := ⟨_, rfl⟩
      have hs1 : S1.size ≤ 11000000 := by rw [hS1]; exact HSZ.out y (by simp)
      rw [← hS0] at l0 HQ
      rw [← hS1] at l1 HQ
      clear hS0 hS1 h2 h4 hlb
      go_wp2
      go_quiet (fail)
      go_wp2
      go_ret
      exact ⟨by rw [HQ.out]; rfl, below_drewN HBX.out _⟩
     ·obtain ⟨x, y, hx⟩ := len_two (h2.trans (by decide))
      subst hx
      have hk1 : k = 2 := HAL.out
      subst hk1
      have HQ := Lib.hid (strE_5 (F := F) HHE.out rfl rfl)
      obtain ⟨lb, lo', rfl, hlb, l0'⟩ := HL.out.at_ (k := 0) (v := .string (strE es F x)) rfl
      have l0 : wr.cell? ⟨lb, lo', none⟩ = some (.string (strE es F x)) := l0'
      clear l0'
      have l1 : wr.cell? ⟨lb, lo' + 1, none⟩ = some (.string (strE es F y)) := by
       obtain ⟨lb', lo2, h8, _, h9⟩ := HL.out.at_ (k := 1) (v := .string (strE es F y)) rfl
       injection h8 with h8
       injection h8 with h8 h7
       subst h8 h7
       exact h9
      obtain ⟨S0, hS0⟩ : ∃ S, S = strE es F x := ⟨_, rfl⟩
      have hs0 : S0.size ≤ 11000000 := by rw [hS0]; exact HSZ.out x (by simp)
      obtain ⟨S1, hS1⟩ : ∃ S, S = strE es F y := ⟨_, rfl⟩
      have hs1 : S1.size ≤ 11000000 := by rw [hS1]; exact HSZ.out y (by simp)
      rw [← hS0] at l0 HQ
      rw [← hS1] at l1 HQ
      clear hS0 hS1 h2 h4 hlb
      go_wp2
      go_quiet (fail)
      go_wp2
      go_ret
      exact ⟨by rw [HQ.out]; rfl, below_drewN HBX.out _⟩
     ·obtain ⟨x, y, hx⟩ := len_two (h2.trans (by decide))
      subst hx
      have hk1 : k = 2 := HAL.out
      subst hk1
      have HQ := Lib.hid (strE_6 (F := F) HHE.out rfl rfl)
      obtain ⟨lb, lo', rfl, hlb, l0'⟩ := HL.out.at_ (k := 0) (v := .string (strE es F x)) rfl
      have l0 : wr.cell? ⟨lb, lo', none⟩ = some (.string (strE es F x)) := l0'
      clear l0'
      have l1 : wr.cell? ⟨lb, lo' + 1, none⟩ = some (.string (strE es F y)) := by
       obtain ⟨lb', lo2, h8, _, h9⟩ := HL.out.at_ (k := 1) (v := .string (strE es F y)) rfl
       injection h8 with h8
       injection h8 with h8 h7
       subst h8 h7
       exact h9
      obtain ⟨S0, hS0⟩ : ∃ S, S = strE es F x := ⟨_, rfl⟩
      have hs0 : S0.size ≤ 11000000 := by rw [hS0]; exact HSZ.out x (by simp)
      obtain ⟨S1, hS1⟩ : ∃ S, S = strE es F y := ⟨_, rfl⟩
      have hs1 : S1.size ≤ 11000000 := by rw [hS1]; exact HSZ.out y (by simp)
      rw [← hS0] at l0 HQ
      rw [← hS1] at l1 HQ
      clear hS0 hS1 h2 h4 hlb
      go_wp2
      go_quiet (fail)
      go_wp2
      go_ret
      exact ⟨by rw [HQ.out]; rfl, below_drewN HBX.out _⟩
     ·obtain ⟨x, y, hx⟩ := len_two (h2.trans (by decide))
      subst hx
      have hk1 : k = 2 := HAL.out
      subst hk1
      have HQ := Lib.hid (strE_7 (F := F) HHE.out rfl rfl)
      obtain ⟨lb, lo', rfl, hlb, l0'⟩ := HL.out.at_ (k := 0) (v := .string (strE es F x)) rfl
      have l0 : wr.cell? ⟨lb, lo', none⟩ = some (.string (strE es F x)) := l0'
      clear l0'
      have l1 : wr.cell? ⟨lb, lo' + 1, none⟩ = some (.string (strE es F y)) := by
       obtain ⟨lb', lo2, h8, _, h9⟩ := HL.out.at_ (k := 1) (v := .string (strE es F y)) rfl
       injection h8 with h8
       injection h8 with h8 h7
       subst h8 h7
       exact h9
      obtain ⟨S0, hS0⟩ : ∃ S, S = strE es F x := ⟨_, rfl⟩
      have hs0 : S0.size ≤ 11000000 := by rw [hS0]; exact HSZ.out x (by simp)
      obtain ⟨S1, hS1⟩ : ∃ S, S = strE es F y := ⟨_, rfl⟩
      have hs1 : S1.size ≤ 11000000 := by rw [hS1]; exact HSZ.out y (by simp)
      rw [← hS0] at l0 HQ
      rw [← hS1] at l1 HQ
      clear hS0 hS1 h2 h4 hlb
      go_wp2
      go_quiet (fail)
      go_wp2
      go_ret
      exact ⟨by rw [HQ.out]; rfl, below_drewN HBX.out _⟩
     ·obtain ⟨x, y, hx⟩ := len_two (h2.trans (by decide))
      subst hx
      have hk1 : k = 2 := HAL.out
      subst hk1
      have HQ := Lib.hid (strE_8 (F := F) HHE.out rfl rfl)
      obtain ⟨lb, lo', rfl, hlb, l0'⟩ := HL.out.at_ (k := 0) (v := .string (strE es F x)) rfl
      have l0 : wr.cell? ⟨lb, lo', none⟩ = some (.string (strE es F x)) := l0'
      clear l0'
      have l1 : wr.cell? ⟨lb, lo' + 1, none⟩ = some (.string (strE es F y)) := by
       obtain ⟨lb', lo2, h8, _, h9⟩ := HL.out.at_ (k := 1) (v := .string (strE es F y)) rfl
       injection h8 with h8
       injection h8 with h8 h7
       subst h8 h7
       exact h9
      obtain ⟨S0, hS0⟩ : ∃ S, S = strE es F x := ⟨_, rfl⟩
      have hs0 : S0.size ≤ 11000000 := by rw [hS0]; exact HSZ.out x (by simp)
      obtain ⟨S1, hS1⟩ : ∃ S, S = strE es F y := ⟨_, rfl⟩
      have hs1 : S1.size ≤ 11000000 := by rw [hS1]; exact HSZ.out y (by simp)
      rw [← hS0] at l0 HQ
      rw [← hS1] at l1 HQ
      clear hS0 hS1 h2 h4 hlb
      go_wp2
      go_quiet (fail)
      go_wp2
      go_ret
      exact ⟨by rw [HQ.out]; rfl, below_drewN HBX.out _⟩
     ·obtain ⟨x, hx⟩ := len_one (h2.trans (by decide))
      subst hx
      have hk1 : k = 1 := HAL.out
      subst hk1
      have HQ := Lib.hid (strE_9 (F := F) HHE.out rfl rfl)
      obtain ⟨lb, lo', rfl, hlb, l0'⟩ := HL.out.at_ (k := 0) (v := .string (strE es F x)) rfl
      have l0 : wr.cell? ⟨lb, lo', none⟩ = some (.string (strE es F x)) := l0'
      clear l0'
      obtain ⟨S0, hS0⟩ : ∃ S, S = strE es F x := ⟨_, rfl⟩
      have hs0 : S0.size ≤ 11000000 := by rw [hS0]; exact HSZ.out x (by simp)
      rw [← hS0] at l0 HQ
      clear hS0 h2
      dsimp only at HQ
      obtain ⟨SN, hSN⟩ : ∃ S, S = strB (decL du) := ⟨_, rfl⟩
      have hsn : SN.size ≤ 20 := by rw [hSN, strB_size]; exact decL_len 19 du (by omega)
      have HW := Lib.hid (show ∀ W : World, Calls Tryz.prog 44 #[.int .u64 du] W fun e w' => e = .returned (.string SN) ∧ Below W.heap.size W w' from fun W => by rw [hSN]; exact pword_any W du (by omega))
      rw [← hSN] at HQ
      clear hSN h4
      have HS0 := Lib.hid (show wr.drew.cell? ⟨w.heap.size + 1, 2, none⟩ = some (.int .u64 du) ∧ wr.drew.cell? ⟨lb, lo', none⟩ = some (.string S0) ∧ Below wr.heap.size wr wr.drew from ⟨e2, l0, (Below.refl _ _).drew⟩)
      have z0 : ¬ 9223372036854775807 < 1 + S0.size := by omega
      have z1 : ¬ 9223372036854775807 < 1 + S0.size + 2 := by omega
      have z2 : ¬ 9223372036854775807 < 1 + S0.size + 2 + SN.size := by omega
      have z3 : ¬ 9223372036854775807 < 1 + S0.size + 2 + SN.size + 1 := by omega
      have HLT := Lib.hid (show w.heap.size + 1 < wr.heap.size ∧ lb < wr.heap.size from ⟨Nat.lt_of_lt_of_le (Array.getElem?_eq_some_iff.1 HE2.out).1 HB.out.size, hlb⟩)
      clear hlb
      go_wp2
      go_region_held3 (fun w' => w'.cell? ⟨w.heap.size + 1, 2, none⟩ = some (.int .u64 du) ∧ w'.cell? ⟨lb, lo', none⟩ = some (.string S0) ∧ Below wr.heap.size wr w')
       (first | with_reducible exact HS0.out | assumption)
       (first
        | (go_at_call 44; refine (HW.out _).mono ?_; rintro e w9 ⟨rfl, b9⟩; have hS9 := es9_next (by assumption) b9 HLT.out.1 HLT.out.2; clear b9))
      all_goals
       rename_i hH
       have HH := Lib.hid hH.2.2
       go_wp2
       go_ret
       exact ⟨by rw [HQ.out]; rfl, bnext HBX.out HH.out⟩
     ·obtain ⟨x, hx⟩ := len_one (h2.trans (by decide))
      subst hx
      have hk1 : k = 1 := HAL.out
      subst hk1
      have HQ := Lib.hid (strE_10 (F := F) HHE.out rfl rfl)
      obtain ⟨lb, lo', rfl, hlb, l0'⟩ := HL.out.at_ (k := 0) (v := .string (strE es F x)) rfl
      have l0 : wr.cell? ⟨lb, lo', none⟩ = some (.string (strE es F x)) := l0'
      clear l0'
      obtain ⟨S0, hS0⟩ : ∃ S, S = strE es F x := ⟨_, rfl⟩
      have hs0 : S0.size ≤ 11000000 := by rw [hS0]; exact HSZ.out x (by simp)
      rw [← hS0] at l0 HQ
      clear hS0 h2 h4 hlb
      go_wp2
      go_ret
      exact ⟨by rw [HQ.out]; rfl, HBX.out⟩
     ·obtain ⟨x, hx⟩ := len_one (h2.trans (by decide))
      subst hx
      have hk1 : k = 1 := HAL.out
      subst hk1
      have HQ := Lib.hid (strE_11 (F := F) HHE.out rfl rfl)
      obtain ⟨lb, lo', rfl, hlb, l0'⟩ := HL.out.at_ (k := 0) (v := .string (strE es F x)) rfl
      have l0 : wr.cell? ⟨lb, lo', none⟩ = some (.string (strE es F x)) := l0'
      clear l0'
      obtain ⟨S0, hS0⟩ : ∃ S, S = strE es F x := ⟨_, rfl⟩
      have hs0 : S0.size ≤ 11000000 := by rw [hS0]; exact HSZ.out x (by simp)
      rw [← hS0] at l0 HQ
      clear hS0 h2 h4 hlb
      go_wp2
      go_ret
      exact ⟨by rw [HQ.out]; rfl, HBX.out⟩
     ·obtain ⟨x, hx⟩ := len_one (h2.trans (by decide))
      subst hx
      have hk1 : k = 1 := HAL.out
      subst hk1
      have HQ := Lib.hid (strE_12 (F := F) HHE.out rfl rfl)
      obtain ⟨lb, lo', rfl, hlb, l0'⟩ := HL.out.at_ (k := 0) (v := .string (strE es F x)) rfl
      have l0 : wr.cell? ⟨lb, lo', none⟩ = some (.string (strE es F x)) := l0'
      clear l0'
      obtain ⟨S0, hS0⟩ : ∃ S, S = strE es F x := ⟨_, rfl⟩
      have hs0 : S0.size ≤ 11000000 := by rw [hS0]; exact HSZ.out x (by simp)
      rw [← hS0] at l0 HQ
      clear hS0 h2 h4 hlb
      go_wp2
      go_ret
      exact ⟨by rw [HQ.out]; rfl, HBX.out⟩
     ·obtain ⟨x, y, hx⟩ := len_two (h2.trans (by decide))
      subst hx
      have hk1 : k = 2 := HAL.out
      subst hk1
      have HQ := Lib.hid (strE_13 (F := F) HHE.out rfl rfl)
      obtain ⟨lb, lo', rfl, hlb, l0'⟩ := HL.out.at_ (k := 0) (v := .string (strE es F x)) rfl
      have l0 : wr.cell? ⟨lb, lo', none⟩ = some (.string (strE es F x)) := l0'
      clear l0'
      have l1 : wr.cell? ⟨lb, lo' + 1, none⟩ = some (.string (strE es F y)) := by
       obtain ⟨lb', lo2, h8, _, h9⟩ := HL.out.at_ (k := 1) (v := .string (strE es F y)) rfl
       injection h8 with h8
       injection h8 with h8 h7
       subst h8 h7
       exact h9
      obtain ⟨S0, hS0⟩ : ∃ S, S = strE es F x := ⟨_, rfl⟩
      have hs0 : S0.size ≤ 11000000 := by rw [hS0]; exact HSZ.out x (by simp)
      obtain ⟨S1, hS1⟩ : ∃ S, S = strE es F y := ⟨_, rfl⟩
      have hs1 : S1.size ≤ 11000000 := by rw [hS1]; exact HSZ.out y (by simp)
      rw [← hS0] at l0 HQ
      rw [← hS1] at l1 HQ
      clear hS0 hS1 h2 h4 hlb
      go_wp2
      go_quiet (fail)
      go_wp2
      go_ret
      exact ⟨by rw [HQ.out]; rfl, below_drewN HBX.out _⟩
     ·obtain ⟨x, y, z, hx⟩ := len_three (h2.trans (by decide))
      subst hx
      have hk1 : k = 3 := HAL.out
      subst hk1
      have HQ := Lib.hid (strE_14 (F := F) HHE.out rfl rfl)
      obtain ⟨lb, lo', rfl, hlb, l0'⟩ := HL.out.at_ (k := 0) (v := .string (strE es F x)) rfl
      have l0 : wr.cell? ⟨lb, lo', none⟩ = some (.string (strE es F x)) := l0'
      clear l0'
      have l1 : wr.cell? ⟨lb, lo' + 1, none⟩ = some (.string (strE es F y)) := by
       obtain ⟨lb', lo2, h8, _, h9⟩ := HL.out.at_ (k := 1) (v := .string (strE es F y)) rfl
       injection h8 with h8
       injection h8 with h8 h7
       subst h8 h7
       exact h9
      have l2 : wr.cell? ⟨lb, lo' + 2, none⟩ = some (.string (strE es F z)) := by
       obtain ⟨lb', lo2, h8, _, h9⟩ := HL.out.at_ (k := 2) (v := .string (strE es F z)) rfl
       injection h8 with h8
       injection h8 with h8 h7
       subst h8 h7
       exact h9
      obtain ⟨S0, hS0⟩ : ∃ S, S = strE es F x := ⟨_, rfl⟩
      have hs0 : S0.size ≤ 11000000 := by rw [hS0]; exact HSZ.out x (by simp)
      obtain ⟨S1, hS1⟩ : ∃ S, S = strE es F y := ⟨_, rfl⟩
      have hs1 : S1.size ≤ 11000000 := by rw [hS1]; exact HSZ.out y (by simp)
      obtain ⟨S2, hS2⟩ : ∃ S, S = strE es F z := ⟨_, rfl⟩
      have hs2 : S2.size ≤ 11000000 := by rw [hS2]; exact HSZ.out z (by simp)
      rw [← hS0] at l0 HQ
      rw [← hS1] at l1 HQ
      rw [← hS2] at l2 HQ
      clear hS0 hS1 hS2 h2 h4 hlb
      go_wp2
      go_quiet (fail)
      go_wp2
      go_ret
      exact ⟨by rw [HQ.out]; rfl, below_drewN HBX.out _⟩
theorem tx_in : (kwT tInput).text.data.toList = [105, 110, 112, 117, 116] := rfl
theorem tx_let : (kwT tLet).text.data.toList = [108, 101, 116] := rfl
theorem tx_out : (kwT tOutput).text.data.toList = [111, 117, 116, 112, 117, 116] := rfl
theorem tx_eq : (sgT tEq).text.data.toList = [61] := rfl
theorem tx_bra : (sgT tBra).text.data.toList = [91] := rfl
theorem tx_ket : (sgT tKet).text.data.toList = [93] := rfl
theorem tx_semi : (sgT tSemi).text.data.toList = [59] := rfl
def strS (es : List Ex) (x : Sm) : ByteArray := strB (wideL (prS es x))
def strP (ss : List Sm) (es : List Ex) : ByteArray := strB (wideL (prP ss es))
def strD (l : List Nat) : ByteArray := strB (wideL (tight (shT l)))
section
variable {es : List Ex} {x : Sm}
theorem strS_1 (k : x.kind = 1) (O : ByteArray) : O ++ strS es x = O ++ ({ data := #[105, 110, 112, 117, 116, 32] } : ByteArray) ++ strB (decL x.party) ++ ({ data := #[32] } : ByteArray) ++ x.name ++ ({ data := #[32, 91] } : ByteArray) ++ strD x.shape ++ ({ data := #[93, 59] } : ByteArray) := by
 apply str_ext
 unfold strS strD prS
 rw [if_pos k]
 simp only [tight_cons, tight_append, tight_nil, wide_cons, wideL_app, wideL_nil, strB_data, ByteArray.data_append, Array.toList_append, List.nil_append, List.append_nil, List.append_assoc, List.cons_append, tx_in, tx_bra, tx_ket, tx_semi, tx_num, tx_name]
theorem strS_2 (k : x.kind = 2) (O : ByteArray) : O ++ strS es x = O ++ ({ data := #[108, 101, 116, 32] } : ByteArray) ++ x.name ++ ({ data := #[32, 61, 32] } : ByteArray) ++ strE es (x.expr + 1) x.expr ++ ({ data := #[59] } : ByteArray) := by
 apply str_ext
 unfold strS strE prS
 rw [if_neg (by omega), if_pos k]
 simp only [tight_cons, tight_append, tight_nil, wide_cons, wideL_app, wideL_nil, strB_data, ByteArray.data_append, Array.toList_append, List.nil_append, List.append_nil, List.append_assoc, List.cons_append, tx_let, tx_eq, tx_semi, tx_num, tx_name]
theorem strS_3 (k : x.kind = 3) (O : ByteArray) : O ++ strS es x = O ++ ({ data := #[111, 117, 116, 112, 117, 116, 32] } : ByteArray) ++ x.name ++ ({ data := #[59] } : ByteArray) := by
 apply str_ext
 unfold strS prS
 rw [if_neg (by omega), if_neg (by omega)]
 simp only [tight_cons, tight_append, tight_nil, wide_cons, wideL_app, wideL_nil, strB_data, ByteArray.data_append, Array.toList_append, List.nil_append, List.append_nil, List.append_assoc, List.cons_append, tx_out, tx_semi, tx_num, tx_name]
end
theorem strP_snoc (ss : List Sm) (x : Sm) (es : List Ex) : strP (ss ++ [x]) es = strP ss es ++ strS es x := by
 apply str_ext
 unfold strP strS prP
 rw [ByteArray.data_append, Array.toList_append, strB_data, strB_data, strB_data, List.flatMap_append, wideL_app]
 simp
theorem strP_nil (es : List Ex) : strP [] es = ⟨#[]⟩ := by
 apply str_ext
 unfold strP
 rw [strB_data]
 rfl
theorem strP_take {ss : List Sm} {es : List Ex} (h : (wideL (prP ss es)).length ≤ 100000) (k : Nat) : (strP (ss.take k) es).size ≤ 100000 := by
 unfold strP
 rw [strB_size]
 have h1 : prP ss es = prP (ss.take k) es ++ prP (ss.drop k) es := by
  unfold prP
  rw [← List.flatMap_append, List.take_append_drop]
 rw [h1, wideL_app, List.length_append] at h
 omega
theorem strD_nil : strD [] = ⟨#[]⟩ := by
 apply str_ext
 unfold strD
 rw [strB_data]
 rfl
theorem shT_snoc (l : List Nat) (d : Nat) : shT (l ++ [d]) = shT l ++ (if l.length = 0 then [] else [sgT tComma]) ++ [numT d] := by
 cases l with
 | nil => rfl
 | cons a r =>
  show numT a :: (r ++ [d]).flatMap _ = numT a :: r.flatMap _ ++ _ ++ _
  rw [List.flatMap_append]
  simp
theorem strD_first (d : Nat) : strD [d] = strB (decL d) := by
 apply str_ext
 unfold strD
 rw [strB_data, strB_data]
 show wideL (tight [numT d]) = _
 rw [tight_cons, tight_nil, wide_cons, tx_num, wideL_nil, List.nil_append, List.append_nil]
theorem strD_snoc (l : List Nat) (d : Nat) (hl : l.length ≠ 0) (O : ByteArray) : O ++ strD (l ++ [d]) = O ++ strD l ++ ({ data := #[44] } : ByteArray) ++ strB (decL d) := by
 apply str_ext
 unfold strD
 rw [shT_snoc, if_neg hl]
 simp only [tight_cons, tight_append, tight_nil, wide_cons, wideL_app, wideL_nil, strB_data, ByteArray.data_append, Array.toList_append, List.nil_append, List.append_nil, List.append_assoc, List.cons_append, tx_tComma, tx_num]
theorem strD_size {l : List Nat} (h : ∀ d ∈ l, d ≤ 1048576) (hl : l.length ≤ 1000) (k : Nat) : (strD (l.take k)).size ≤ 42000 := by
 have h1 := wide_short (tight (shT (l.take k))) (AllSt.tight (shT_short fun d hd => h d (List.mem_of_mem_take hd)))
 have h2 := shT_count (l.take k)
 have h3 : (l.take k).length ≤ l.length := by rw [List.length_take]; omega
 unfold strD
 rw [strB_size]
 rw [tight_length] at h1
 omega
theorem ssto_at {es : List Ex} : ∀ {ss : List Sm} {a b i : Nat} {x : Sm}, SsTo es a b ss → ss[i]? = some x → x.kind = 2 → ∃ lo, TrL es lo (x.expr + 1) [x.expr]
 | [], a, b, i, x, h, hi, hk => by simp at hi
 | y :: r, a, b, i, x, h, hi, hk => by
  unfold SsTo at h
  cases i with
  | zero =>
   have : y = x := Option.some.inj hi
   subst this
   rw [if_pos hk] at h
   exact ⟨a, h.1⟩
  | succ i =>
   have hi' : r[i]? = some x := hi
   split at h
   ·exact ssto_at h.2 hi' hk
   ·exact ssto_at h hi' hk
structure PrOk (L0 : List Tok) (ss : List Sm) (es : List Ex) : Prop where
 hm : ∀ e ∈ es, MadeE L0 e
 hno : NumsOk es
 hms : ∀ x ∈ ss, MadeS L0 x
 hnm : ∀ x ∈ ss, x.name.size ≤ 16
 hsh : ∀ x ∈ ss, x.shape.length ≤ 1000
 hto : ∃ b, SsTo es 0 b ss
 htot : (wideL (prP ss es)).length ≤ 100000
 hne : es.length ≤ 100000
 hns : ss.length ≤ 100000
theorem es9_next2 {w3 W W' : World} {g : Nat} {u v : Value} (h : W.cell? ⟨g, 1, none⟩ = some u ∧ W.cell? ⟨g, 2, none⟩ = some v ∧ Below w3.heap.size w3 W) (hb : Below W.heap.size W W') (h1 : g < w3.heap.size) : W'.cell? ⟨g, 1, none⟩ = some u ∧ W'.cell? ⟨g, 2, none⟩ = some v ∧ Below w3.heap.size w3 W' :=
 ⟨(hb.cell (p := ⟨g, 1, none⟩) (Nat.lt_of_lt_of_le h1 h.2.2.size)).trans h.1, (hb.cell (p := ⟨g, 2, none⟩) (Nat.lt_of_lt_of_le h1 h.2.2.size)).trans h.2.1, bnext h.2.2 hb⟩
theorem lt_row {W : World} {p : Addr} {v : Value} (h : W.cell? p = some v) : p.block < W.heap.size := by
 unfold World.cell? at h
 split at h
 ·rename_i hb
  exact (Array.getElem?_eq_some_iff.1 hb).1
 ·cases h
def PrintRel (w1 : World) (ss : List Sm) (es : List Ex) (ov iv : Value) (wr : World) : Prop := ∃ k : Nat, k ≤ ss.length ∧ iv = .int .i64 k ∧ ov = .string (strP (ss.take k) es) ∧ Below w1.heap.size w1 wr
def DimRel (w1 : World) (P : ByteArray) (l : List Nat) (ov iv : Value) (wr : World) : Prop := ∃ k : Nat, k ≤ l.length ∧ iv = .int .i64 k ∧ ov = .string (P ++ strD (l.take k)) ∧ Below w1.heap.size w1 wr
set_option maxRecDepth 100000 in
set_option maxHeartbeats 4000000 in
theorem print_txt {L0 : List Tok} {ss : List Sm} {es : List Ex} (hok : PrOk L0 ss es) (SA : Option Addr) (ns sc : Nat) (EA : Option Addr) (ne ec : Nat) (hns : ns = ss.length) (hne : ne = es.length) (w : World)
  (hS : RdS w w.heap.size SA ss) (hE : RdE w w.heap.size EA es) :
  Calls Tryz.prog 18 #[.agg #[.slice SA ns sc, .slice EA ne ec]] w fun e w' => e = .returned (.string (strP ss es)) ∧ Below w.heap.size w w' := by
 have HOK := Lib.hid hok
 have HNS := Lib.hid hns
 have HNE := Lib.hid hne
 have HS := Lib.hid hS
 have HE := Lib.hid hE
 have hns9 : ns ≤ 100000 := by rw [hns]; exact hok.hns
 obtain ⟨w1, hw1⟩ : ∃ w1, w1 = w.alloc (.cells #[.slice SA ns sc, .slice EA ne ec] 26) := ⟨_, rfl⟩
 have hb1 : Below w.heap.size w w1 := by rw [hw1]; exact one_new w _
 have ht1 : w1.heap[w.heap.size]? = some (.cells #[.slice SA ns sc, .slice EA ne ec] 26 (0, 0)) := by rw [hw1]; exact heap_alloc_new w _
 have HB1 := Lib.hid hb1
 have HT1 := Lib.hid ht1
 have HW1 := Lib.hid hw1
 clear hok hns hne hS hE hw1 hb1 ht1
 go_enter Tryz.func18, Tryz.ntmps18
 go_wp2
 rw [← HW1.out]
 go_loopw [3, 10] (fun ov iv wr => PrintRel w1 ss es ov iv wr) (fun _ iv _ => ns - (intOf iv).toNat)
 case atStart => exact ⟨0, Nat.zero_le _, rfl, by rw [List.take_zero, strP_nil], Below.refl _ _⟩
 case round =>
  obtain ⟨k, hk, rfl, rfl, hb⟩ := hrel
  have HB := Lib.hid hb
  rw [← HNS.out] at hk
  have t0 := cell_of_row _ _ 0 _ _ _ ((hb.block _ (Array.getElem?_eq_some_iff.1 HT1.out).1).trans HT1.out)
  have t1 := cell_of_row _ _ 1 _ _ _ ((hb.block _ (Array.getElem?_eq_some_iff.1 HT1.out).1).trans HT1.out)
  clear hb
  obtain ⟨O, hO⟩ : ∃ O, O = strP (ss.take k) es := ⟨_, rfl⟩
  have hOs : O.size ≤ 100000 := by rw [hO]; exact strP_take HOK.out.htot k
  have HO := Lib.hid hO
  rw [← hO]
  clear hO
  by_cases hlt : k < ns
  ·have hxk : ss[k]? = some (ss[k]'(by rw [← HNS.out]; exact hlt)) := List.getElem?_eq_getElem _
   obtain ⟨x, hx⟩ : ∃ x, x = ss[k]'(by rw [← HNS.out]; exact hlt) := ⟨_, rfl⟩
   rw [← hx] at hxk
   have HXK := Lib.hid hxk
   have HXM := Lib.hid (List.mem_of_getElem? hxk)
   clear hx hxk
   obtain ⟨b, o, rfl, hbl, hx⟩ := (HS.out.below (bnext HB1.out HB.out)).at_ HXK.out
   have HRS := Lib.hid (show ∀ W, Below wr.heap.size wr W → RdE W W.heap.size EA es from fun W hW => (HE.out.next (bnext HB1.out HB.out)).next hW)
   have HLT := Lib.hid (show w.heap.size < wr.heap.size from Nat.lt_of_lt_of_le (Array.getElem?_eq_some_iff.1 HT1.out).1 HB.out.size)
   have HSP := Lib.hid (show strP (ss.take (k + 1)) es = O ++ strS es x from by
    rw [List.take_add_one, HXK.out, HO.out]
    exact strP_snoc _ _ _)
   obtain ⟨xk, xp, xn, xs, xe, xpos⟩ := x
   obtain ⟨c0, c1, c2, ⟨A, c, c3, c3'⟩, c4, c5⟩ := hx
   dsimp only at c0 c1 c2 c3 c3' c4 c5
   obtain ⟨sl, hsl⟩ : ∃ sl, sl = xs.length := ⟨_, rfl⟩
   rw [← hsl] at c3
   have HSL := Lib.hid hsl
   have HC3 := Lib.hid c3'
   have k0 : (0 : Int) ≤ (k : Int) := by omega
   have k1 : (k : Int) < (ns : Int) := by omega
   have hnm : xn.size ≤ 16 := HOK.out.hnm _ HXM.out
   have hbB : b < wr.heap.size := Nat.lt_of_lt_of_le hbl (bnext HB1.out HB.out).size
   have HBB := Lib.hid hbB
   clear hsl c3' hbl hbB
   have hmk := (HOK.out.hms _ HXM.out).2
   rcases hmk with ⟨h0, hp, hd, hex⟩ | ⟨h0, hp, hd⟩ | ⟨h0, hp, hd, hex⟩
   ·dsimp only at h0 hp hd hex
    subst h0
    have HD := Lib.hid hd
    have HQ := Lib.hid (strS_1 (es := es) (x := ⟨1, xp, xn, xs, xe, xpos⟩) rfl O)
    dsimp only at HQ
    obtain ⟨w3, hw3⟩ : ∃ w3, w3 = wr.alloc (.cells #[.int .i64 1, .int .i64 xp, .string xn, .slice A sl c, .int .i64 xe, .int .i64 xpos] 93) := ⟨_, rfl⟩
    have h3b : w3.heap[wr.heap.size]? = some (.cells #[.int .i64 1, .int .i64 xp, .string xn, .slice A sl c, .int .i64 xe, .int .i64 xpos] 93 (0, 0)) := by rw [hw3]; exact heap_alloc_new wr _
    have HB3 := Lib.hid (show Below wr.heap.size wr w3 from by rw [hw3]; exact one_new wr _)
    have H3B := Lib.hid h3b
    have HW3 := Lib.hid hw3
    have HS0 := Lib.hid (show w3.drew.cell? ⟨wr.heap.size, 1, none⟩ = some (.int .i64 xp) ∧ w3.drew.cell? ⟨wr.heap.size, 2, none⟩ = some (.string xn) ∧ Below w3.heap.size w3 w3.drew from ⟨cell_of_row _ _ 1 _ _ _ h3b, cell_of_row _ _ 2 _ _ _ h3b, (Below.refl _ _).drew⟩)
    obtain ⟨SW, hSW⟩ : ∃ S, S = strB (decL xp) := ⟨_, rfl⟩
    have hsw : SW.size ≤ 20 := by rw [hSW, strB_size]; exact decL_len 19 xp (by omega)
    have HW := Lib.hid (show ∀ W : World, Calls Tryz.prog 44 #[.int .u64 xp] W fun e w' => e = .returned (.string SW) ∧ Below W.heap.size W w' from fun W => by rw [hSW]; exact pword_any W xp (by omega))
    rw [← hSW] at HQ
    have HLT3 := Lib.hid (Array.getElem?_eq_some_iff.1 h3b).1
    clear hSW hd hex hw3 h3b
    have zc : IntKind.u64.wrap (xp : Int) = (xp : Int) := by rw [wrapN]; omega
    have z0 : ¬ 9223372036854775807 < O.size + 6 := by omega
    have z1 : ¬ 9223372036854775807 < O.size + 6 + SW.size := by omega
    have z2 : ¬ 9223372036854775807 < O.size + 6 + SW.size + 1 := by omega
    have z3 : ¬ 9223372036854775807 < O.size + 6 + SW.size + 1 + xn.size := by omega
    have z4 : ¬ 9223372036854775807 < O.size + 6 + SW.size + 1 + xn.size + 2 := by omega
    go_wp2
    rw [← HW3.out]
    go_region_held3 (fun w' => w'.cell? ⟨wr.heap.size, 1, none⟩ = some (.int .i64 xp) ∧ w'.cell? ⟨wr.heap.size, 2, none⟩ = some (.string xn) ∧ Below w3.heap.size w3 w')
     (first | with_reducible exact HS0.out | assumption)
     (first
      | (go_at_call 44; refine (HW.out _).mono ?_; rintro e w9 ⟨rfl, b9⟩; have hS9 := es9_next2 (by assumption) b9 HLT3.out; clear b9))
    all_goals
     rename_i hH
     have HH := Lib.hid hH.2.2
     have d3 := cell_of_row _ _ 3 _ _ _ ((hH.2.2.block _ HLT3.out).trans H3B.out)
     obtain ⟨P, hP⟩ : ∃ P, P = O ++ ({ data := #[105, 110, 112, 117, 116, 32] } : ByteArray) ++ SW ++ ({ data := #[32] } : ByteArray) ++ xn ++ ({ data := #[32, 91] } : ByteArray) := ⟨_, rfl⟩
     have hPs : P.size ≤ 200000 := by
      rw [hP]
      simp only [ByteArray.size_append]
      show O.size + 6 + SW.size + 1 + xn.size + 2 ≤ 200000
      omega
     have HB9 := Lib.hid (bnext HB.out (bnext HB3.out HH.out))
     have HR9 := Lib.hid (show Rd w9 w9.heap.size A (xs.map I64) from (HC3.out.below ((bnext HB3.out HH.out).mono (bnext HB1.out HB.out).size)).more (bnext (bnext HB1.out HB.out) (bnext HB3.out HH.out)).size)
     rw [← hP]
     rw [← hP] at HQ
     have H39 := Lib.hid (show w9.heap[wr.heap.size]? = _ from (HH.out.block _ HLT3.out).trans H3B.out)
     have hsl9 : sl ≤ 1000 := by rw [HSL.out]; exact HOK.out.hsh _ HXM.out
     clear hH hP z0 z1 z2 z3 z4 zc
     go_wp2
     go_loopw [3, 43] (fun ov iv wq => DimRel w9 P xs ov iv wq) (fun _ iv _ => sl - (intOf iv).toNat)
     case atStart => exact ⟨0, Nat.zero_le _, rfl, by rw [List.take_zero, strD_nil]; exact congrArg Value.string (str_ext (by simp)), Below.refl _ _⟩
     case round =>
      obtain ⟨j, hj, rfl, rfl, hbj⟩ := hrel
      have HBJ := Lib.hid hbj
      rw [← HSL.out] at hj
      have d3 := cell_of_row _ _ 3 _ _ _ ((hbj.block _ (Array.getElem?_eq_some_iff.1 H39.out).1).trans H39.out)
      have hds := strD_size (l := xs) HD.out (by rw [← HSL.out]; exact hsl9) j
      clear hbj
      by_cases hjl : j < sl
      ·have hxj : xs[j]? = some (xs[j]'(by rw [← HSL.out]; exact hjl)) := List.getElem?_eq_getElem _
       obtain ⟨d, hd⟩ : ∃ d, d = xs[j]'(by rw [← HSL.out]; exact hjl) := ⟨_, rfl⟩
       rw [← hd] at hxj
       have HXJ := Lib.hid hxj
       have hd9 : d ≤ 1048576 := HD.out d (List.mem_of_getElem? hxj)
       obtain ⟨ab, ao, rfl, hab, xa⟩ := (HR9.out.below HBJ.out).at_ (v := I64 d) (by rw [List.getElem?_map, hxj]; rfl)
       have xb : wr.cell? ⟨ab, ao + j, none⟩ = some (.int .i64 (d : Int)) := xa
       clear hd hxj hab xa
       have j0 : (0 : Int) ≤ (j : Int) := by omega
       have j1 : (j : Int) < (sl : Int) := by omega
       have zc : IntKind.u64.wrap (d : Int) = (d : Int) := by rw [wrapN]; omega
       obtain ⟨SD, hSD⟩ : ∃ S, S = strB (decL d) := ⟨_, rfl⟩
       have hsd : SD.size ≤ 20 := by rw [hSD, strB_size]; exact decL_len 19 d (by omega)
       have HWD := Lib.hid (show ∀ W : World, Calls Tryz.prog 44 #[.int .u64 d] W fun e w' => e = .returned (.string SD) ∧ Below W.heap.size W w' from fun W => by rw [hSD]; exact pword_any W d (by omega))
       obtain ⟨T, hT⟩ : ∃ T, T = strD (xs.take j) := ⟨_, rfl⟩
       rw [← hT] at hds ⊢
       have HSD := Lib.hid hSD
       have HTT := Lib.hid hT
       clear hSD hT
       have HTK := Lib.hid (show xs.take (j + 1) = xs.take j ++ [d] from by rw [List.take_add_one, HXJ.out]; rfl)
       by_cases hj0 : j = 0
       ·subst hj0
        have xc : wr.cell? ⟨ab, ao, none⟩ = some (.int .i64 (d : Int)) := xb
        clear xb
        have z0 : ¬ 9223372036854775807 < P.size + T.size + SD.size := by omega
        go_wp2_with fail
        refine (HWD.out _).mono ?_
        rintro e wz ⟨rfl, bz⟩
        have HBZ := Lib.hid bz
        clear bz
        go_wp2
        refine ⟨⟨1, by rw [← HSL.out]; omega, by go_num, ?_, bnext HBJ.out HBZ.out⟩, by simp [intOf]; omega⟩
        rw [HTK.out, List.take_zero, List.nil_append, strD_first, ← HSD.out, HTT.out, List.take_zero, strD_nil]
        exact congrArg Value.string (str_ext (by simp))
       ·have q0 : decide ((0 : Int) < (j : Int)) = true := decide_eq_true (by omega)
        have z0 : ¬ 9223372036854775807 < P.size + T.size + 1 := by omega
        have z1 : ¬ 9223372036854775807 < P.size + T.size + 1 + SD.size := by omega
        have HSN := Lib.hid (strD_snoc (xs.take j) d (by rw [List.length_take, ← HSL.out]; omega) P)
        go_wp2_with fail
        refine (HWD.out _).mono ?_
        rintro e wz ⟨rfl, bz⟩
        have HBZ := Lib.hid bz
        clear bz
        go_wp2
        refine ⟨⟨j + 1, by rw [← HSL.out]; omega, by go_num, ?_, bnext HBJ.out HBZ.out⟩, by simp [intOf]; omega⟩
        rw [HTK.out, HSN.out, ← HSD.out, ← HTT.out]
      ·obtain rfl : j = sl := by omega
       rw [List.take_of_length_le (by rw [← HSL.out]; exact Nat.le_refl _)] at hds ⊢
       have z0 : ¬ 9223372036854775807 < P.size + (strD xs).size + 2 := by omega
       go_wp2
       refine ⟨⟨k + 1, by rw [← HNS.out]; omega, by go_num, ?_, bnext HB9.out HBJ.out⟩, by simp [intOf]; omega⟩
       rw [HSP.out, HQ.out]
   ·dsimp only at h0 hp hd
    subst h0
    have HQ := Lib.hid (strS_2 (es := es) (x := ⟨2, xp, xn, xs, xe, xpos⟩) rfl O)
    dsimp only at HQ
    obtain ⟨w3, hw3⟩ : ∃ w3, w3 = wr.alloc (.cells #[.int .i64 2, .int .i64 xp, .string xn, .slice A sl c, .int .i64 xe, .int .i64 xpos] 93) := ⟨_, rfl⟩
    have h3b : w3.heap[wr.heap.size]? = some (.cells #[.int .i64 2, .int .i64 xp, .string xn, .slice A sl c, .int .i64 xe, .int .i64 xpos] 93 (0, 0)) := by rw [hw3]; exact heap_alloc_new wr _
    have hb3 : Below wr.heap.size wr w3 := by rw [hw3]; exact one_new wr _
    have HB3 := Lib.hid hb3
    have HW3 := Lib.hid hw3
    obtain ⟨lo, htr⟩ : ∃ lo, TrL es lo (xe + 1) [xe] := by
     obtain ⟨bb, hto⟩ := HOK.out.hto
     exact ssto_at hto HXK.out rfl
    have hxe : xe < es.length := by
     obtain ⟨e9, h9, _⟩ := trl_one htr
     exact (List.getElem?_eq_some_iff.1 h9).1
    obtain ⟨SX, hSX⟩ : ∃ S, S = strE es (xe + 1) xe := ⟨_, rfl⟩
    have hsx : SX.size ≤ 11000000 := by
     have h8 := strE_size HOK.out.hm HOK.out.hno xe (xe + 1) lo (Nat.lt_succ_self _) htr
     have h9 := HOK.out.hne
     rw [hSX]
     omega
    have HCX := Lib.hid (show ∀ W : World, Below wr.heap.size wr W → Calls Tryz.prog 45 #[.agg #[.slice (some ⟨b, o, none⟩) ns sc, .slice EA ne ec], .int .i64 xe] W fun e w' => e = .returned (.string SX) ∧ Below W.heap.size W w' from fun W hW => by
     rw [hSX]
     exact expr_txt HOK.out.hm HOK.out.hno (some ⟨b, o, none⟩) ns sc EA ne ec HNE.out (by rw [HNE.out]; exact HOK.out.hne) xe (xe + 1) lo W (Nat.lt_succ_self _) htr (HRS.out W hW))
    rw [← hSX] at HQ
    have HS0 := Lib.hid (show w3.drew.cell? ⟨w.heap.size, 0, none⟩ = some (.slice (some ⟨b, o, none⟩) ns sc) ∧ w3.drew.cell? ⟨w.heap.size, 1, none⟩ = some (.slice EA ne ec) ∧ w3.drew.cell? ⟨wr.heap.size, 2, none⟩ = some (.string xn) ∧ w3.drew.cell? ⟨wr.heap.size, 4, none⟩ = some (.int .i64 xe) ∧ Below wr.heap.size wr w3.drew from
     ⟨(hb3.cell (p := ⟨w.heap.size, 0, none⟩) HLT.out).trans t0, (hb3.cell (p := ⟨w.heap.size, 1, none⟩) HLT.out).trans t1, cell_of_row _ _ 2 _ _ _ h3b, cell_of_row _ _ 4 _ _ _ h3b, hb3.drew⟩)
    have HKEEP := Lib.hid (show ∀ W W' : World, (W.cell? ⟨w.heap.size, 0, none⟩ = some (.slice (some ⟨b, o, none⟩) ns sc) ∧ W.cell? ⟨w.heap.size, 1, none⟩ = some (.slice EA ne ec) ∧ W.cell? ⟨wr.heap.size, 2, none⟩ = some (.string xn) ∧ W.cell? ⟨wr.heap.size, 4, none⟩ = some (.int .i64 xe) ∧ Below wr.heap.size wr W) → wr.heap.size < W.heap.size → Below W.heap.size W W' → (W'.cell? ⟨w.heap.size, 0, none⟩ = some (.slice (some ⟨b, o, none⟩) ns sc) ∧ W'.cell? ⟨w.heap.size, 1, none⟩ = some (.slice EA ne ec) ∧ W'.cell? ⟨wr.heap.size, 2, none⟩ = some (.string xn) ∧ W'.cell? ⟨wr.heap.size, 4, none⟩ = some (.int .i64 xe) ∧ Below wr.heap.size wr W') from
     fun W W' h hl hb9 => ⟨(hb9.cell (p := ⟨w.heap.size, 0, none⟩) (Nat.lt_trans HLT.out hl)).trans h.1, (hb9.cell (p := ⟨w.heap.size, 1, none⟩) (Nat.lt_trans HLT.out hl)).trans h.2.1, (hb9.cell (p := ⟨wr.heap.size, 2, none⟩) hl).trans h.2.2.1, (hb9.cell (p := ⟨wr.heap.size, 4, none⟩) hl).trans h.2.2.2.1, bnext h.2.2.2.2 hb9⟩)
    clear hSX hd hp hw3 h3b hb3
    have z0 : ¬ 9223372036854775807 < O.size + 4 := by omega
    have z1 : ¬ 9223372036854775807 < O.size + 4 + xn.size := by omega
    have z2 : ¬ 9223372036854775807 < O.size + 4 + xn.size + 3 := by omega
    have z3 : ¬ 9223372036854775807 < O.size + 4 + xn.size + 3 + SX.size := by omega
    have z4 : ¬ 9223372036854775807 < O.size + 4 + xn.size + 3 + SX.size + 1 := by omega
    go_wp2
    rw [← HW3.out]
    go_region_held3 (fun w' => w'.cell? ⟨w.heap.size, 0, none⟩ = some (.slice (some ⟨b, o, none⟩) ns sc) ∧ w'.cell? ⟨w.heap.size, 1, none⟩ = some (.slice EA ne ec) ∧ w'.cell? ⟨wr.heap.size, 2, none⟩ = some (.string xn) ∧ w'.cell? ⟨wr.heap.size, 4, none⟩ = some (.int .i64 xe) ∧ Below wr.heap.size wr w')
     (first | with_reducible exact HS0.out | assumption)
     (first
      | (go_at_call 45; refine (HCX.out _ (And.right (And.right (And.right (And.right (by assumption)))))).mono ?_; rintro e w9 ⟨rfl, b9⟩; have hS9 := HKEEP.out _ _ (by assumption) (lt_row (And.left (And.right (And.right (by assumption))))) b9; clear b9))
    all_goals
     rename_i hH
     have HH := Lib.hid hH.2.2.2.2
     go_wp2
     refine ⟨⟨k + 1, by rw [← HNS.out]; omega, by go_num, ?_, bnext HB.out HH.out⟩, by simp [intOf]; omega⟩
     rw [HSP.out, HQ.out]
   ·dsimp only at h0 hp hd hex
    subst h0
    have HQ := Lib.hid (strS_3 (es := es) (x := ⟨3, xp, xn, xs, xe, xpos⟩) rfl O)
    clear hp hd hex
    go_wp2
    refine ⟨⟨k + 1, by rw [← HNS.out]; omega, by go_num, ?_, HB.out.alloc HB.out.size _⟩, by simp [intOf]; omega⟩
    rw [HSP.out, HQ.out]
  ·obtain rfl : k = ns := by omega
   rw [List.take_of_length_le (by rw [← HNS.out]; exact Nat.le_refl _)] at HO
   go_wp2
   go_ret
   exact ⟨by rw [← HO.out]; rfl, bnext HB1.out HB.out⟩
end Go.Proofs.YtghlnncfigkkaaaGreatDoor
