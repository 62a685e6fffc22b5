/- Plain functions: what package utf8 computes, and their laws. -/
import Derived.Test.YtlmelclfdafhbaaLib
import Derived.PlainAid
namespace Go.Proofs.Ytlmelclfdafhbaa
open Go.RowKit Go.PlainAid
set_option linter.unusedVariables false
set_option linter.unusedSimpArgs false
def putN (r : Int) : List Int :=
  if r < 0 ∨ 1114111 < r ∨ (55296 ≤ r ∧ r ≤ 57343) then [] else if r < 128 then [r] else if r < 2048 then [192 + r / 64, 128 + r % 64]
  else if r < 65536 then [224 + r / 4096, 128 + r / 64 % 64, 128 + r % 64] else [240 + r / 262144, 128 + r / 4096 % 64, 128 + r / 64 % 64, 128 + r % 64]
def put (r : Int) : ByteArray := strOfNums (putN r)
def sizeN (c : Int) : Int × Int := if c < 128 then (1, c) else if c < 192 then (0, 0) else if c < 224 then (2, c % 32) else if c < 240 then (3, c % 16) else if c < 248 then (4, c % 8) else (0, 0)
def rsizeN (c : Int) : Int × Int := if 240 ≤ c then (4, c % 8) else if 224 ≤ c then (3, c % 16) else if 192 ≤ c then (2, c % 32) else (1, c)
def acc (s : ByteArray) (k : Nat) (r : Int) : Nat → Int
  | 0 => r
  | i + 1 => acc s k r i * 64 + bt s (k + (i + 1)) % 64
theorem acc_bound (s : ByteArray) (k : Nat) (r : Int) (h0 : 0 ≤ r) (h1 : r < 256) : ∀ i, i ≤ 3 → 0 ≤ acc s k r i ∧ acc s k r i < 67108864 := by
  have b := bt_nonneg s
  have step : ∀ i (B : Int), 0 ≤ acc s k r i → acc s k r i < B → 0 ≤ acc s k r (i + 1) ∧ acc s k r (i + 1) < B * 64 := by
    intro i B g0 g1
    have := b (k + (i + 1))
    simp only [acc]
    omega
  intro i hi
  have s0 : 0 ≤ acc s k r 0 ∧ acc s k r 0 < 256 := ⟨h0, h1⟩
  have s1 : 0 ≤ acc s k r 1 ∧ acc s k r 1 < 16384 := step 0 256 s0.1 s0.2
  have s2 : 0 ≤ acc s k r 2 ∧ acc s k r 2 < 1048576 := step 1 _ s1.1 s1.2
  have s3 : 0 ≤ acc s k r 3 ∧ acc s k r 3 < 67108864 := step 2 _ s2.1 s2.2
  rcases (by omega : i = 0 ∨ i = 1 ∨ i = 2 ∨ i = 3) with rfl | rfl | rfl | rfl <;> omega
theorem sizeN_le (c : Int) (h0 : 0 ≤ c) (h1 : c < 256) : 0 ≤ (sizeN c).1 ∧ (sizeN c).1 ≤ 4 ∧ 0 ≤ (sizeN c).2 ∧ (sizeN c).2 < 256 := by
  unfold sizeN
  repeat' split
  all_goals (refine ⟨?_, ?_, ?_, ?_⟩ <;> omega)
theorem rsizeN_le (c : Int) (h0 : 0 ≤ c) (h1 : c < 256) : 1 ≤ (rsizeN c).1 ∧ (rsizeN c).1 ≤ 4 ∧ 0 ≤ (rsizeN c).2 ∧ (rsizeN c).2 < 256 := by
  unfold rsizeN
  repeat' split
  all_goals (refine ⟨?_, ?_, ?_, ?_⟩ <;> omega)

/-! bytes as lists -/
theorem app_toList (a b : ByteArray) : (a ++ b).toList = a.toList ++ b.toList := by
  rw [ByteArray.toList_eq, ByteArray.toList_eq, ByteArray.toList_eq, ByteArray.data_append, Array.toList_append]
def putB (r : Int) : List UInt8 := (putN r).map fun n => UInt8.ofNat n.toNat
theorem put_toList (r : Int) : (put r).toList = putB r := by
  rw [ByteArray.toList_eq]; exact strOfNums_data _
def accL (r : Int) (l : List UInt8) : Int := l.foldl (fun r b => r * 64 + (b.toNat : Int) % 64) r
theorem bt_eq (s : ByteArray) (k : Nat) (c : UInt8) (h : s.toList[k]? = some c) : bt s k = c.toNat := by
  rw [ByteArray.toList_eq] at h
  unfold bt
  have hk : k < s.size := by
    have := (List.getElem?_eq_some_iff.1 h).1
    simpa using this
  rw [dif_pos hk]
  have := (List.getElem?_eq_some_iff.1 h).2
  rw [← this]
  rfl
theorem acc_eq (s : ByteArray) (k : Nat) (r : Int) (i : Nat) (h : k + i < s.size) : acc s k r i = accL r ((s.toList.drop (k + 1)).take i) := by
  have hl : s.toList.length = s.size := by rw [ByteArray.toList_eq]; simp
  induction i with
  | zero => rfl
  | succ i ih =>
    have hj : k + 1 + i < s.toList.length := by omega
    have e : (s.toList.drop (k + 1)).take (i + 1) = (s.toList.drop (k + 1)).take i ++ [s.toList[k + 1 + i]] := by
      rw [List.take_succ_eq_append_getElem (by simp; omega)]
      simp
    rw [e]
    unfold accL
    rw [List.foldl_append]
    simp only [acc, List.foldl_cons, List.foldl_nil]
    have := ih (by omega)
    unfold accL at this
    rw [this, bt_eq s (k + (i + 1)) (s.toList[k + 1 + i]) (by rw [show k + (i + 1) = k + 1 + i by omega]; exact List.getElem?_eq_getElem hj)]
/-- the first code point of a list of bytes -/
def decW (sz : Int → Int × Int) (l : List UInt8) : Option (Int × Nat) :=
  match l with
  | [] => none
  | c :: t =>
    let n := (sz c.toNat).1.toNat
    let r := accL (sz c.toNat).2 (t.take (n - 1))
    if n = 0 ∨ t.length + 1 < n then none else if putB r = (c :: t).take n then some (r, n) else none
def decL (l : List UInt8) : Option (Int × Nat) := decW sizeN l
theorem putB_of {r : Int} {l : List Int} (h : putN r = l) : putB r = l.map fun n => UInt8.ofNat n.toNat := by unfold putB; rw [h]
theorem toNat_ofNat (n : Int) (h0 : 0 ≤ n) (h1 : n < 256) : ((UInt8.ofNat n.toNat).toNat : Int) = n := by
  simp; omega
theorem decW_put (sz : Int → Int × Int) (hz : ∀ c, sz c = sizeN c ∨ 128 ≤ c ∧ c < 192 ∨ 248 ≤ c) (r : Int) (t : List UInt8) (h : putB r ≠ []) : decW sz (putB r ++ t) = some (r, (putB r).length) := by
  have sz' : ∀ c, c < 128 ∨ 192 ≤ c ∧ c < 248 → sz c = sizeN c := fun c hc => by
    rcases hz c with h | h | h
    · exact h
    · omega
    · omega
  by_cases h0 : r < 0 ∨ 1114111 < r ∨ (55296 ≤ r ∧ r ≤ 57343)
  · exact absurd (by rw [putB_of (l := []) (by unfold putN; rw [if_pos h0])]; rfl) h
  by_cases h1 : r < 128
  · have e : putN r = [r] := by unfold putN; rw [if_neg h0, if_pos h1]
    have eb := putB_of e
    have b0 := toNat_ofNat r (by omega) (by omega)
    have z : sz r = (1, r) := by rw [sz' r (by omega)]; unfold sizeN; rw [if_pos (by omega)]
    rw [eb]
    simp only [List.map_cons, List.map_nil, List.cons_append, List.nil_append, decW, b0, z]
    simp [accL, eb]
  by_cases h2 : r < 2048
  · have e : putN r = [192 + r / 64, 128 + r % 64] := by unfold putN; rw [if_neg h0, if_neg h1, if_pos h2]
    have eb := putB_of e
    have b0 := toNat_ofNat (192 + r / 64) (by omega) (by omega)
    have b1 := toNat_ofNat (128 + r % 64) (by omega) (by omega)
    have z : sz (192 + r / 64) = (2, (192 + r / 64) % 32) := by rw [sz' _ (by omega)]; unfold sizeN; rw [if_neg (by omega), if_neg (by omega), if_pos (by omega)]
    have er : (192 + r / 64) % 32 * 64 + (128 + r % 64) % 64 = r := by omega
    rw [eb]
    simp only [List.map_cons, List.map_nil, List.cons_append, List.nil_append, decW, b0, z]
    simp only [accL, show (2 : Int).toNat = 2 from rfl, show 2 - 1 = 1 from rfl, List.take_succ_cons, List.take_zero, List.foldl_cons, List.foldl_nil, b1, er, eb, List.map_cons, List.map_nil]
    simp
  by_cases h3 : r < 65536
  · have e : putN r = [224 + r / 4096, 128 + r / 64 % 64, 128 + r % 64] := by unfold putN; rw [if_neg h0, if_neg h1, if_neg h2, if_pos h3]
    have eb := putB_of e
    have b0 := toNat_ofNat (224 + r / 4096) (by omega) (by omega)
    have b1 := toNat_ofNat (128 + r / 64 % 64) (by omega) (by omega)
    have b2 := toNat_ofNat (128 + r % 64) (by omega) (by omega)
    have z : sz (224 + r / 4096) = (3, (224 + r / 4096) % 16) := by rw [sz' _ (by omega)]; unfold sizeN; rw [if_neg (by omega), if_neg (by omega), if_neg (by omega), if_pos (by omega)]
    have er : ((224 + r / 4096) % 16 * 64 + (128 + r / 64 % 64) % 64) * 64 + (128 + r % 64) % 64 = r := by omega
    rw [eb]
    simp only [List.map_cons, List.map_nil, List.cons_append, List.nil_append, decW, b0, z]
    simp only [accL, show (3 : Int).toNat = 3 from rfl, show 3 - 1 = 2 from rfl, List.take_succ_cons, List.take_zero, List.foldl_cons, List.foldl_nil, b1, b2, er, eb, List.map_cons, List.map_nil]
    simp
  · have e : putN r = [240 + r / 262144, 128 + r / 4096 % 64, 128 + r / 64 % 64, 128 + r % 64] := by unfold putN; rw [if_neg h0, if_neg h1, if_neg h2, if_neg h3]
    have eb := putB_of e
    have b0 := toNat_ofNat (240 + r / 262144) (by omega) (by omega)
    have b1 := toNat_ofNat (128 + r / 4096 % 64) (by omega) (by omega)
    have b2 := toNat_ofNat (128 + r / 64 % 64) (by omega) (by omega)
    have b3 := toNat_ofNat (128 + r % 64) (by omega) (by omega)
    have z : sz (240 + r / 262144) = (4, (240 + r / 262144) % 8) := by rw [sz' _ (by omega)]; unfold sizeN; rw [if_neg (by omega), if_neg (by omega), if_neg (by omega), if_neg (by omega), if_pos (by omega)]
    have er : (((240 + r / 262144) % 8 * 64 + (128 + r / 4096 % 64) % 64) * 64 + (128 + r / 64 % 64) % 64) * 64 + (128 + r % 64) % 64 = r := by omega
    rw [eb]
    simp only [List.map_cons, List.map_nil, List.cons_append, List.nil_append, decW, b0, z]
    simp only [accL, show (4 : Int).toNat = 4 from rfl, show 4 - 1 = 3 from rfl, List.take_succ_cons, List.take_zero, List.foldl_cons, List.foldl_nil, b1, b2, b3, er, eb, List.map_cons, List.map_nil]
    simp
theorem decW_some (sz : Int → Int × Int) (l : List UInt8) (r : Int) (n : Nat) (h : decW sz l = some (r, n)) : putB r ≠ [] ∧ n = (putB r).length ∧ l = putB r ++ l.drop n := by
  unfold decW at h
  split at h
  · cases h
  · rename_i c t
    dsimp only at h
    split at h
    · cases h
    · rename_i hc
      split at h
      · rename_i hp
        simp only [Option.some.injEq, Prod.mk.injEq] at h
        obtain ⟨rfl, rfl⟩ := h
        have hlen : (putB (accL (sz c.toNat).2 (t.take ((sz c.toNat).1.toNat - 1)))).length = (sz c.toNat).1.toNat := by
          rw [hp]; simp; omega
        refine ⟨fun e => ?_, hlen.symm, ?_⟩
        · rw [e] at hlen; simp at hlen; omega
        · rw [hp]; exact (List.take_append_drop _ _).symm
      · cases h
theorem decL_some (l : List UInt8) (r : Int) (n : Nat) (h : decL l = some (r, n)) : putB r ≠ [] ∧ n = (putB r).length ∧ l = putB r ++ l.drop n := decW_some _ l r n h
theorem decL_put (r : Int) (t : List UInt8) (h : putB r ≠ []) : decL (putB r ++ t) = some (r, (putB r).length) := decW_put _ (fun _ => Or.inl rfl) r t h
theorem rsize_or (c : Int) : rsizeN c = sizeN c ∨ 128 ≤ c ∧ c < 192 ∨ 248 ≤ c := by
  by_cases h : 128 ≤ c ∧ c < 192 ∨ 248 ≤ c
  · exact Or.inr h
  · left
    unfold rsizeN sizeN
    repeat' split
    all_goals first | rfl | omega
theorem rdec_eq (l : List UInt8) : decW rsizeN l = decL l := by
  cases h : decW rsizeN l with
  | some p =>
    obtain ⟨r, n⟩ := p
    obtain ⟨h1, h2, h3⟩ := decW_some _ l r n h
    rw [h3, decL_put r _ h1, ← h2]
  | none =>
    cases h' : decL l with
    | none => rfl
    | some p =>
      obtain ⟨r, n⟩ := p
      obtain ⟨h1, h2, h3⟩ := decL_some l r n h'
      rw [h3, decW_put _ rsize_or r _ h1] at h
      cases h
theorem putN_nonneg (r : Int) (h : putB r ≠ []) : 0 ≤ r ∧ r ≤ 1114111 := by
  by_cases h0 : r < 0 ∨ 1114111 < r ∨ (55296 ≤ r ∧ r ≤ 57343)
  · exact absurd (by rw [putB_of (l := []) (by unfold putN; rw [if_pos h0])]; rfl) h
  · omega
theorem putB_nil (r : Int) : putB r = [] ↔ r < 0 ∨ 1114111 < r ∨ (55296 ≤ r ∧ r ≤ 57343) := by
  constructor
  · intro h
    by_cases h0 : r < 0 ∨ 1114111 < r ∨ (55296 ≤ r ∧ r ≤ 57343)
    · exact h0
    · exfalso
      unfold putB putN at h
      rw [if_neg h0] at h
      repeat' split at h
      all_goals simp at h
  · intro h0
    rw [putB_of (l := []) (by unfold putN; rw [if_pos h0])]; rfl
theorem putB_len (r : Int) : (putB r).length ≤ 4 := by
  unfold putB putN
  repeat' split
  all_goals simp
/-- what Get tells -/
def getL (l : List UInt8) (k : Nat) : Int × Int := match decL (l.drop k) with | none => (-1, k) | some (r, n) => (r, k + n)
theorem extract_toList (s : ByteArray) (k n : Nat) : (s.extract k (k + n)).toList = (s.toList.drop k).take n := by
  rw [ByteArray.toList_eq, ByteArray.toList_eq, ByteArray.data_extract, Array.toList_extract]
  simp [List.extract]
theorem getW (sz : Int → Int × Int) (s : ByteArray) (k n : Nat) (r : Int) (hk : k < s.size) (e : sz (bt s k) = ((n : Int), r)) (h0 : 0 < n) (hn : k + n ≤ s.size) :
    decW sz (s.toList.drop k) = if ((put (acc s k r (n - 1))).toList == (s.extract k (k + n)).toList) = true then some (acc s k r (n - 1), n) else none := by
  have hl : s.toList.length = s.size := by rw [ByteArray.toList_eq]; simp
  have hd : s.toList.drop k = s.toList[k]'(by omega) :: s.toList.drop (k + 1) := List.drop_eq_getElem_cons (by omega)
  have hb : bt s k = (s.toList[k]'(by omega)).toNat := bt_eq s k _ (List.getElem?_eq_getElem (by omega))
  rw [extract_toList, hd]
  simp only [decW]
  rw [← hb, e]
  simp only [Int.toNat_natCast]
  rw [acc_eq s k r (n - 1) (by omega), put_toList, if_neg (by simp; omega)]
  simp only [beq_iff_eq]
theorem getW_none (sz : Int → Int × Int) (s : ByteArray) (k n : Nat) (r : Int) (hk : k < s.size) (e : sz (bt s k) = ((n : Int), r)) (h : n = 0 ∨ s.size < k + n) : decW sz (s.toList.drop k) = none := by
  have hl : s.toList.length = s.size := by rw [ByteArray.toList_eq]; simp
  have hd : s.toList.drop k = s.toList[k]'(by omega) :: s.toList.drop (k + 1) := List.drop_eq_getElem_cons (by omega)
  have hb : bt s k = (s.toList[k]'(by omega)).toNat := bt_eq s k _ (List.getElem?_eq_getElem (by omega))
  rw [hd]
  simp only [decW]
  rw [← hb, e]
  simp only [Int.toNat_natCast]
  rw [if_pos (by simp; omega)]
/-! valid texts -/
def ValidP (l : List UInt8) : Prop := ∃ rs : List Int, (∀ r ∈ rs, putB r ≠ []) ∧ l = (rs.map putB).flatten
noncomputable def validB (l : List UInt8) : Bool := @decide (ValidP l) (Classical.propDecidable _)
theorem validB_iff (l : List UInt8) : validB l = true ↔ ValidP l := by unfold validB; exact @decide_eq_true_iff _ (Classical.propDecidable _)
theorem ValidP.nil : ValidP [] := ⟨[], by simp, rfl⟩
theorem ValidP.cons {r : Int} {l : List UInt8} (h : putB r ≠ []) (hl : ValidP l) : ValidP (putB r ++ l) := by
  obtain ⟨rs, h1, rfl⟩ := hl
  exact ⟨r :: rs, by simpa [h] using h1, rfl⟩
theorem ValidP.head {l : List UInt8} (h : ValidP l) (hne : l ≠ []) : ∃ r n, decL l = some (r, n) ∧ ValidP (l.drop n) := by
  obtain ⟨rs, h1, rfl⟩ := h
  cases rs with
  | nil => exact absurd rfl hne
  | cons r rs =>
    have h2 := h1 r (by simp)
    refine ⟨r, (putB r).length, decL_put r _ h2, ⟨rs, fun x hx => h1 x (by simp [hx]), ?_⟩⟩
    simp
theorem validB_nil : validB [] = true := (validB_iff _).2 ValidP.nil
theorem validB_none (l : List UInt8) (hne : l ≠ []) (h : decL l = none) : validB l = false := by
  cases hb : validB l with
  | false => rfl
  | true =>
    obtain ⟨r, n, h1, _⟩ := ((validB_iff l).1 hb).head hne
    rw [h] at h1; cases h1
theorem validB_some (l : List UInt8) (r : Int) (n : Nat) (h : decL l = some (r, n)) : validB (l.drop n) = validB l := by
  obtain ⟨h1, h2, h3⟩ := decL_some l r n h
  rw [Bool.eq_iff_iff, validB_iff, validB_iff]
  constructor
  · intro hv; rw [h3]; exact hv.cons h1
  · intro hv
    obtain ⟨r', n', e, hv'⟩ := hv.head (by rw [h3]; simp [h1])
    rw [h] at e; cases e; exact hv'
/-- how many bytes the first n code points have -/
def cutL : Nat → List UInt8 → Nat
  | 0, _ => 0
  | n + 1, l => match decL l with | none => 0 | some (_, m) => m + cutL n (l.drop m)
theorem decL_nil : decL [] = none := rfl
theorem dec_le (l : List UInt8) (r : Int) (n : Nat) (h : decL l = some (r, n)) : 0 < n ∧ n ≤ l.length ∧ 0 ≤ r := by
  obtain ⟨h1, h2, h3⟩ := decL_some l r n h
  have : 0 < (putB r).length := List.length_pos_iff.2 h1
  have h4 : l.length = (putB r).length + (l.drop n).length := by
    have := congrArg List.length h3
    simpa using this
  exact ⟨by omega, by omega, (putN_nonneg r h1).1⟩
theorem cutL_le : ∀ (n : Nat) (l : List UInt8), cutL n l ≤ l.length
  | 0, _ => Nat.zero_le _
  | n + 1, l => by
    unfold cutL
    split
    · exact Nat.zero_le _
    · rename_i r m h
      have h1 := dec_le l r m h
      have h2 := cutL_le n (l.drop m)
      simp at h2
      omega
end Go.Proofs.Ytlmelclfdafhbaa
