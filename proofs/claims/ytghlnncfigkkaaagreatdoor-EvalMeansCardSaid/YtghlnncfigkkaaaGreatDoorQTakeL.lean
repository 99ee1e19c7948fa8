/-
  The number at the front of bytes: plain lemmas, no program. Bytes as a string: the conversion's law, and how strings are held against each other.
-/
import Derived.Test.YtghlnncfigkkaaaGreatDoorQNum
import Derived.Test.YtghlnncfigkkaaaGreatDoorRows
import Derived.Laws.BytesArg
namespace Go.Proofs.YtghlnncfigkkaaaGreatDoor
set_option linter.unusedVariables false
set_option linter.unusedSimpArgs false
open Go.RowKit
def nthB (l : List UInt8) (k : Nat) : UInt8 := l.getD k 0
theorem nthB_pos (l : List UInt8) {k : Nat} (h : k < l.length) : nthB l k = l[k] := by
  unfold nthB; rw [List.getD_eq_getElem?_getD, List.getElem?_eq_getElem h]; rfl
theorem nthB_map (l : List UInt8) {k : Nat} (h : k < l.length) : (l.map V8)[k]? = some (V8 (nthB l k)) := by
  rw [List.getElem?_map, List.getElem?_eq_getElem h, nthB_pos l h]; rfl
theorem Rd.byte {w : World} {B : Nat} {A : Option Addr} {l : List UInt8} (h : Rd w B A (l.map V8)) {k : Nat} (hk : k < l.length) :
    ∃ b o, A = some ⟨b, o, none⟩ ∧ b < B ∧ w.cell? ⟨b, o + k, none⟩ = some (V8 (nthB l k)) := h.at_ (nthB_map l hk)
theorem nthB_cons_succ (c : UInt8) (l : List UInt8) (k : Nat) : nthB (c :: l) (k + 1) = nthB l k := rfl
theorem nthB_cons_zero (c : UInt8) (l : List UInt8) : nthB (c :: l) 0 = c := rfl
/-- How many of the first bytes have 128, f at most. -/
def contB : Nat → List UInt8 → Nat
  | 0, _ => 0
  | _ + 1, [] => 0
  | f + 1, c :: r => if 128 ≤ c.toNat then contB f r + 1 else 0
theorem contB_eq (i : Nat) : ∀ (f : Nat) (l : List UInt8), i ≤ f → i ≤ l.length → (∀ j, j < i → 128 ≤ (nthB l j).toNat) → (i = f ∨ i = l.length ∨ (nthB l i).toNat < 128) → contB f l = i := by
  induction i with
  | zero =>
    intro f l _ _ _ h
    cases f with
    | zero => rfl
    | succ f =>
      cases l with
      | nil => rfl
      | cons c r =>
        rcases h with h | h | h
        · omega
        · simp at h
        · rw [nthB_cons_zero] at h
          unfold contB
          rw [if_neg (by omega)]
  | succ i ih =>
    intro f l hf hl hj h
    cases f with
    | zero => omega
    | succ f =>
      cases l with
      | nil => simp at hl
      | cons c r =>
        have h0 := hj 0 (by omega)
        rw [nthB_cons_zero] at h0
        unfold contB
        rw [if_pos h0, ih f r (by omega) (by simpa using hl) (fun j hji => by have := hj (j + 1) (by omega); rwa [nthB_cons_succ] at this) (by
          rcases h with h | h | h
          · exact .inl (by omega)
          · exact .inr (.inl (by simpa using h))
          · rw [nthB_cons_succ] at h; exact .inr (.inr h))]
/-- The number at the front, and how many bytes it takes; (0, 0) where there is none. -/
def takeB (l : List UInt8) : Nat × Nat :=
  if contB 5 l = l.length ∨ contB 5 l = 5 then (0, 0)
  else if 4294967295 < valB (l.take (contB 5 l + 1)) ∨ numB (valB (l.take (contB 5 l + 1))) ≠ l.take (contB 5 l + 1) then (0, 0)
  else (valB (l.take (contB 5 l + 1)), contB 5 l + 1)
theorem take_succB (l : List UInt8) {i : Nat} (h : i < l.length) : l.take (i + 1) = l.take i ++ [nthB l i] := by
  rw [List.take_succ_eq_append_getElem h, nthB_pos l h]
theorem valB_append (l : List UInt8) (c : UInt8) : valB (l ++ [c]) = valB l + c.toNat % 128 * 128 ^ l.length := by
  induction l with
  | nil => simp [valB]
  | cons x l ih =>
    rw [List.cons_append, valB_cons, valB_cons, ih, List.length_cons, Nat.pow_succ, Nat.mul_add]
    rw [show 128 * (c.toNat % 128 * 128 ^ l.length) = c.toNat % 128 * (128 ^ l.length * 128) from by rw [Nat.mul_comm, Nat.mul_assoc]]
    omega
theorem valB_take (l : List UInt8) {i : Nat} (h : i < l.length) : valB (l.take (i + 1)) = valB (l.take i) + (nthB l i).toNat % 128 * 128 ^ i := by
  rw [take_succB l h, valB_append, List.length_take, Nat.min_eq_left (by omega)]
theorem valB_lt (l : List UInt8) : valB l < 128 ^ l.length := by
  induction l with
  | nil => simp [valB]
  | cons x l ih => rw [valB_cons, List.length_cons, Nat.pow_succ]; omega
theorem takeB_none {l : List UInt8} (i : Nat) (hj : ∀ j, j < i → 128 ≤ (nthB l j).toNat) (hi : i ≤ 5) (hl : i ≤ l.length) (h : i = 5 ∨ i = l.length) : takeB l = (0, 0) := by
  unfold takeB
  rw [contB_eq i 5 l hi hl hj (by rcases h with h | h; exact .inl h; exact .inr (.inl h)), if_pos (by rcases h with h | h; exact .inr h; exact .inl h)]
theorem takeB_at {l : List UInt8} (i : Nat) (hj : ∀ j, j < i → 128 ≤ (nthB l j).toNat) (hi : i < 5) (hl : i < l.length) (hc : (nthB l i).toNat < 128) :
    takeB l = if 4294967295 < valB (l.take (i + 1)) ∨ ((nthB l i).toNat = 0 ∧ 0 < i) then (0, 0) else (valB (l.take (i + 1)), i + 1) := by
  unfold takeB
  rw [contB_eq i 5 l (by omega) (by omega) hj (.inr (.inr hc)), if_neg (by omega)]
  have hk := numB_valB (l.take i) (nthB l i) (fun x hx => by
    obtain ⟨j, hj2, rfl⟩ := List.mem_iff_getElem.1 hx
    rw [List.length_take] at hj2
    have := hj j (by omega)
    rw [nthB_pos l (by omega)] at this
    rw [List.getElem_take]
    exact this) hc
  rw [← take_succB l hl] at hk
  have he : (l.take i = []) ↔ i = 0 := by
    rw [List.take_eq_nil_iff]
    constructor
    · rintro (h | h)
      · exact h
      · subst h; simp at hl
    · exact .inl
  have : (numB (valB (l.take (i + 1))) ≠ l.take (i + 1)) ↔ ((nthB l i).toNat = 0 ∧ 0 < i) := by
    rw [Ne, hk, he]; omega
  by_cases h1 : 4294967295 < valB (l.take (i + 1)) ∨ ((nthB l i).toNat = 0 ∧ 0 < i)
  · rw [if_pos h1, if_pos (by rcases h1 with h1 | h1; exact .inl h1; exact .inr (this.2 h1))]
  · rw [if_neg h1, if_neg (by rintro (h2 | h2); exact h1 (.inl h2); exact h1 (.inr (this.1 h2)))]
attribute [irreducible] nthB takeB
end Go.Proofs.YtghlnncfigkkaaaGreatDoor
namespace Go.Proofs.YtghlnncfigkkaaaGreatDoor
set_option linter.unusedVariables false
set_option linter.unusedSimpArgs false
open Go.RowKit
/-- A string of these bytes. -/
def strB (l : List UInt8) : ByteArray := ⟨l.toArray⟩
theorem strB_toList (l : List UInt8) : (strB l).toList = l := by
  unfold strB
  rw [ByteArray.toList_eq]
theorem strB_size (l : List UInt8) : (strB l).size = l.length := by unfold strB; simp [ByteArray.size]
theorem strB_inj {l l' : List UInt8} (h : strB l = strB l') : l = l' := by rw [← strB_toList l, h, strB_toList]
theorem strB_data (l : List UInt8) : (strB l).data.toList = l := by unfold strB; rfl
theorem conv_bytes (A : Option Addr) (c n : Nat) (l : List UInt8) (B : Nat) (w : World) (hn : l.length = n) (hA : Rd w B A (l.map V8)) :
    (convert 162 9 (.slice A n c)).run Tryz.prog w = .ok (.string (strB l)) w := by
  subst hn
  rcases hA with h | ⟨b, o, rfl, hb, hc⟩
  · have : l = [] := by simpa using h
    subst this
    cases A with
    | none =>
      rw [run_convert_bytes_nil w 162 5 Tryz.underlying162 Tryz.underlying5 _ _ 9 Tryz.underlying9]
      rfl
    | some a =>
      rw [List.length_nil, run_convert_bytes_string w 162 9 5 (some a) 0 c Tryz.underlying162 Tryz.underlying5 Tryz.underlying9,
        run_bytesToString w a 0 c [] (by simp [loadCells, loadCellsFrom])]
      rfl
  · have h := run_convert_bytes_arg (P := Tryz.prog) w 162 5 Tryz.underlying162 Tryz.underlying5 b o l.length c (l.map fun x => (x.toNat : Int)) (by simp) (fun i hi => by
      rw [hc i _ (nthB_map l hi), List.getD_eq_getElem?_getD, List.getElem?_map, List.getElem?_eq_getElem hi, nthB_pos l hi, Option.map_some, Option.getD_some]) 9 Tryz.underlying9
    rw [h]
    have e : ((fun n : Int => UInt8.ofNat n.toNat) ∘ fun x : UInt8 => (x.toNat : Int)) = id := by
      funext x
      simp
    have e2 : (l.map fun x : UInt8 => (x.toNat : Int)).map (fun n : Int => UInt8.ofNat n.toNat) = l := by rw [List.map_map, e, List.map_id]
    have : strOfNums (l.map fun x => (x.toNat : Int)) = strB l := by
      unfold strOfNums strB
      rw [e2]
    rw [this]
attribute [irreducible] strB
end Go.Proofs.YtghlnncfigkkaaaGreatDoor
