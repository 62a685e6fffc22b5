/- Texts of one seat, one behind the other: Pj8. No condition. -/
import Derived.Test.YtjigceoponlphaaQ6
/-! Plain laws of reading JSON: arrays and objects that stand in one another. -/
namespace Go.Proofs.Ytjigceoponlphaa
open Go.RowKit Go.PlainAid
set_option linter.unusedVariables false
set_option linter.unusedSimpArgs false
def rep (t : List UInt8) (k : Nat) : List UInt8 := (List.replicate k t).flatten
theorem rep_zero (t : List UInt8) : rep t 0 = [] := rfl
theorem rep_left (t : List UInt8) (k : Nat) : rep t (k + 1) = t ++ rep t k := by unfold rep; rw [List.replicate_succ, List.flatten_cons]
theorem rep_right (t : List UInt8) (k : Nat) : rep t (k + 1) = rep t k ++ t := by
  unfold rep
  rw [List.replicate_succ', List.flatten_append]
  simp
theorem rep_len (t : List UInt8) (k : Nat) : (rep t k).length = k * t.length := by
  induction k with
  | zero => simp [rep]
  | succ k ih => rw [rep_left, List.length_append, ih, Nat.succ_mul]; omega
def nest (obj : Bool) : Nat → Nd
  | 0 => .mk 4 1 ⟨#[]⟩ [] []
  | k + 1 => if obj = true then .mk 7 0 ⟨#[]⟩ [⟨#[97]⟩] [nest obj k] else .mk 6 0 ⟨#[]⟩ [] [nest obj k]
def nOpen (obj : Bool) : List UInt8 := if obj = true then [123, 34, 97, 34, 58] else [91]
def nShut (obj : Bool) : List UInt8 := if obj = true then [125] else [93]
theorem putU_nest (obj : Bool) (k : Nat) : putU (nest obj k) = rep (nOpen obj) k ++ [49] ++ rep (nShut obj) k := by
  induction k with
  | zero =>
    unfold nest putU
    rw [if_neg (by omega), if_neg (by omega), if_neg (by omega), if_pos rfl]
    show Lib.decDigits 1 = _
    rw [Lib.decDigits_one (by omega)]
    rfl
  | succ k ih =>
    unfold nest
    cases obj with
    | true =>
      rw [if_pos rfl]
      unfold putU
      rw [if_neg (by omega), if_neg (by omega), if_neg (by omega), if_neg (by omega), if_neg (by omega), if_neg (by omega)]
      have h := putL_cons true [⟨#[97]⟩] (nest true k) [] []
      rw [List.append_nil] at h
      show [123] ++ putL true [⟨#[97]⟩] [nest true k] true ++ [125] = _
      rw [h, ih, rep_left, rep_right]
      have e0 : putL true [] [] false ++ [] = [] := by unfold putL; rfl
      have e1 : quoteU (⟨#[97]⟩ : ByteArray).toList = [34, 97, 34] := by rw [one_lit]; decide
      simp [e0, e1, nOpen, nShut]
      rfl
    | false =>
      rw [if_neg (by simp)]
      unfold putU
      rw [if_neg (by omega), if_neg (by omega), if_neg (by omega), if_neg (by omega), if_neg (by omega), if_pos rfl]
      have h := putL_cons false [] (nest false k) [] []
      rw [List.append_nil] at h
      show [91] ++ putL false [] [nest false k] true ++ [93] = _
      rw [h, ih, rep_left, rep_right]
      simp [nOpen, nShut]
      unfold putL; rfl
theorem right_nest (obj : Bool) : ∀ (k : Nat) (deep : Int), 0 ≤ deep → deep + k ≤ 24 → rightD (nest obj k) deep = true
  | 0, deep, _, _ => right_num 1 (by omega) (by omega) deep
  | k + 1, deep, h0, h => by
    have ih := right_nest obj k (deep + 1) (by omega) (by omega)
    unfold nest
    split
    · exact right_obj _ _ deep (by omega) rfl (by simp) (by intro a ha; simp at ha; subst ha; rw [one_lit]; exact ValidP.ascii 97 (by decide)) (by intro a ha; simp at ha; subst ha; exact ih)
    · exact right_arr _ deep (by omega) (by intro a ha; simp at ha; subst ha; exact ih)
theorem deep_err (obj : Bool) : ∀ (j deep : Nat) (X : List UInt8), deep ≤ 24 → 24 < deep + j → valL deep (rep (nOpen obj) j ++ X) = .error 4
  | 0, deep, X, h1, h2 => by omega
  | j + 1, deep, X, h1, h2 => by
    rw [rep_left]
    cases obj with
    | true =>
      show valL deep (123 :: 34 :: 97 :: 34 :: 58 :: (rep (nOpen true) j ++ X)) = _
      by_cases hd : 24 ≤ deep
      · exact valL_deep deep _ (.inr rfl) hd
      · have ih := deep_err true j (deep + 1) X (by omega) (by omega)
        rw [valL_obj deep _ rfl hd, List.tail_cons, blanks_ne _ (by decide), if_neg (by simp), objL_eq, blanks_ne _ (by decide)]
        rw [show (34 :: 97 :: 34 :: 58 :: (rep (nOpen true) j ++ X)) = quoteU [97] ++ (58 :: (rep (nOpen true) j ++ X)) from rfl, textL_quote [97] (ValidP.ascii 97 (by decide))]
        simp only
        have hb : blanksL (rep (nOpen true) j ++ X) = rep (nOpen true) j ++ X := by
          cases j with
          | zero => omega
          | succ j => rw [rep_left]; exact blanks_ne (c := 123) _ (by decide)
        rw [if_neg (by simp), blanks_ne _ (by decide), if_pos (by simp), List.tail_cons, hb, ih]
    | false =>
      show valL deep (91 :: (rep (nOpen false) j ++ X)) = _
      by_cases hd : 24 ≤ deep
      · exact valL_deep deep _ (.inl rfl) hd
      · have ih := deep_err false j (deep + 1) X (by omega) (by omega)
        have hb : blanksL (rep (nOpen false) j ++ X) = rep (nOpen false) j ++ X := by
          cases j with
          | zero => omega
          | succ j => rw [rep_left]; exact blanks_ne (c := 91) _ (by decide)
        have hh : (rep (nOpen false) j ++ X).head? ≠ some 93 := by
          cases j with
          | zero => omega
          | succ j => rw [rep_left]; show some (91 : UInt8) ≠ _; simp
        rw [valL_arr deep _ rfl hd, List.tail_cons, hb, if_neg hh, arrL_eq, hb, ih]
theorem nest_lens (obj : Bool) (k : Nat) (hk : k ≤ 40) : (rep (nOpen obj) k ++ [49] ++ rep (nShut obj) k).length ≤ 300 := by
  have h1 : (nOpen obj).length ≤ 5 := by unfold nOpen; split <;> simp
  have h2 : (nShut obj).length ≤ 1 := by unfold nShut; split <;> simp
  simp only [List.length_append, rep_len, List.length_cons, List.length_nil]
  have a1 : k * (nOpen obj).length ≤ 40 * 5 := Nat.mul_le_mul hk h1
  have a2 : k * (nShut obj).length ≤ 40 * 1 := Nat.mul_le_mul hk h2
  omega
theorem parse_nest (obj : Bool) (k : Nat) (hk : k ≤ 40) : parseL (rep (nOpen obj) k ++ [49] ++ rep (nShut obj) k) = if 24 < k then .error 4 else .ok (nest obj k) := by
  have hl := nest_lens obj k hk
  split
  · rename_i h
    unfold parseL
    rw [if_neg (by omega)]
    have hb : blanksL (rep (nOpen obj) k ++ [49] ++ rep (nShut obj) k) = rep (nOpen obj) k ++ ([49] ++ rep (nShut obj) k) := by
      rw [List.append_assoc]
      cases k with
      | zero => omega
      | succ k =>
        rw [rep_left]
        cases obj with
        | true => exact blanks_ne (c := 123) _ (by decide)
        | false => exact blanks_ne (c := 91) _ (by decide)
    rw [hb, deep_err obj k 0 _ (by omega) (by omega)]
  · rw [← putU_nest]
    exact parse_put _ (right_nest obj k 0 (by omega) (by omega)) (by rw [putU_nest]; omega)
end Go.Proofs.Ytjigceoponlphaa
