/- What reading JSON computes: plain functions on lists of bytes. -/
import Derived.Test.YtofkdeojabongaaDoorUtf0
import Derived.Test.YtofkdeojabongaaDoorNode0
namespace Go.Proofs.YtofkdeojabongaaDoor
open Go.RowKit Go.PlainAid
set_option linter.unusedVariables false
set_option linter.unusedSimpArgs false
def blankB (c : UInt8) : Bool := c == 32 || c == 9 || c == 10 || c == 13
def blanksL (l : List UInt8) : List UInt8 := l.dropWhile blankB
theorem blanksL_le (l : List UInt8) : (blanksL l).length ≤ l.length := (List.dropWhile_suffix _).length_le
def digB (c : UInt8) : Bool := decide (48 ≤ c.toNat ∧ c.toNat ≤ 57)
def valD (n : Int) (ds : List UInt8) : Int := ds.foldl (fun n c => n * 10 + ((c.toNat : Int) - 48)) n
def pointB (l : List UInt8) : Bool := match l with
  | [] => false
  | c :: _ => c == 46 || c == 101 || c == 69
def numTail (neg : Bool) (l : List UInt8) : Option (Int × List UInt8) :=
  if l.takeWhile digB = [] ∨ (1 < (l.takeWhile digB).length ∧ l.head? = some 48) ∨ 9007199254740991 < valD 0 (l.takeWhile digB) ∨ (neg = true ∧ valD 0 (l.takeWhile digB) = 0) ∨ pointB (l.dropWhile digB) = true then none
  else some (if neg = true then - valD 0 (l.takeWhile digB) else valD 0 (l.takeWhile digB), l.dropWhile digB)
def numL (l : List UInt8) : Option (Int × List UInt8) := if l.head? = some 45 then numTail true l.tail else numTail false l
def hexD (c : UInt8) : Option Int :=
  if 48 ≤ c.toNat ∧ c.toNat ≤ 57 then some ((c.toNat : Int) - 48) else if 97 ≤ c.toNat ∧ c.toNat ≤ 102 then some ((c.toNat : Int) - 87) else if 65 ≤ c.toNat ∧ c.toNat ≤ 70 then some ((c.toNat : Int) - 55) else none
def unitL : Nat → Int → List UInt8 → Option (Int × List UInt8)
  | 0, n, l => some (n, l)
  | _ + 1, _, [] => none
  | k + 1, n, c :: l => match hexD c with
    | none => none
    | some h => unitL k (n * 16 + h) l
def pointL (l : List UInt8) : Option (Int × List UInt8) :=
  match unitL 4 0 l with
  | none => none
  | some (n, r) => if n < 55296 ∨ 57343 < n then some (n, r) else if 56320 ≤ n then none else if r.take 2 = [92, 117] then
      (match unitL 4 0 (r.drop 2) with
      | none => none
      | some (low, r2) => if low < 56320 ∨ 57343 < low then none else some (65536 + (n % 1024) * 1024 + low % 1024, r2))
    else none
def escL (l : List UInt8) : Option (List UInt8 × List UInt8) :=
  match l with
  | [] => none
  | c :: r => if c = 34 ∨ c = 92 ∨ c = 47 then some ([c], r) else if c = 98 then some ([8], r) else if c = 102 then some ([12], r) else if c = 110 then some ([10], r) else if c = 114 then some ([13], r) else if c = 116 then some ([9], r)
    else if c = 117 then (match pointL r with
      | none => none
      | some (n, r2) => some (putB n, r2))
    else none
set_option maxRecDepth 20000 in
/-- a text behind its opening sign -/
def textT (l acc : List UInt8) : Option (List UInt8 × List UInt8) :=
  match l with
  | [] => none
  | c :: r => if c < 32 then none else if c = 34 then some (acc, r) else if c = 92 then (match escL r with
      | none => none
      | some (b, r2) => if r2.length ≤ r.length then textT r2 (acc ++ b) else none)
    else match decL (c :: r) with
      | none => none
      | some (_, m) => if 0 < m then textT ((c :: r).drop m) (acc ++ (c :: r).take m) else none
termination_by l.length
decreasing_by
  · simp only [List.length_cons]; omega
  · simp only [List.length_drop, List.length_cons]; omega
def textL (l : List UInt8) : Option (List UInt8 × List UInt8) := if l.head? = some 34 then textT l.tail [] else none
def nd0 (k : Int) : Nd := .mk k 0 ⟨#[]⟩ [] []
mutual
/-- a value within so many others -/
def valL (deep : Nat) (l : List UInt8) : Except Int (Nd × List UInt8) :=
  if (l.head? = some 91 ∨ l.head? = some 123) ∧ 24 ≤ deep then .error 4
  else if l.head? = some 91 then
    (if (blanksL l.tail).head? = some 93 then .ok (.mk 6 0 ⟨#[]⟩ [] [], (blanksL l.tail).tail) else if (blanksL l.tail).length < l.length then arrL deep (blanksL l.tail) [] else .error 3)
  else if l.head? = some 123 then
    (if (blanksL l.tail).head? = some 125 then .ok (.mk 7 0 ⟨#[]⟩ [] [], (blanksL l.tail).tail) else if (blanksL l.tail).length < l.length then objL deep (blanksL l.tail) [] [] else .error 3)
  else if l.head? = some 34 then
    (match textL l with
    | none => .error 3
    | some (t, r) => .ok (.mk 5 0 ⟨t.toArray⟩ [] [], r))
  else if l.take 4 = [110, 117, 108, 108] then .ok (nd0 1, l.drop 4)
  else if l.take 5 = [102, 97, 108, 115, 101] then .ok (nd0 2, l.drop 5)
  else if l.take 4 = [116, 114, 117, 101] then .ok (nd0 3, l.drop 4)
  else match numL l with
    | none => .error 3
    | some (n, r) => .ok (.mk 4 n ⟨#[]⟩ [] [], r)
termination_by 2 * l.length
decreasing_by all_goals omega
/-- the kids of an array, from one on -/
def arrL (deep : Nat) (l : List UInt8) (ns : List Nd) : Except Int (Nd × List UInt8) :=
  match valL (deep + 1) (blanksL l) with
  | .error e => .error e
  | .ok (n, r) => if (blanksL r).head? = some 93 then .ok (.mk 6 0 ⟨#[]⟩ [] (ns ++ [n]), (blanksL r).tail)
    else if (blanksL r).head? = some 44 then (if (blanksL r).tail.length < l.length then arrL deep (blanksL r).tail (ns ++ [n]) else .error 3)
    else .error 3
termination_by 2 * l.length + 1
decreasing_by
  · have := blanksL_le l; omega
  · omega
/-- the kids of an object, from a key on -/
def objL (deep : Nat) (l : List UInt8) (ks : List ByteArray) (ns : List Nd) : Except Int (Nd × List UInt8) :=
  match textL (blanksL l) with
  | none => .error 3
  | some (k, r) => if ks.any (fun s => s.toList == k) = true then .error 5
    else if (blanksL r).head? = some 58 then (if (blanksL (blanksL r).tail).length < l.length then
      (match valL (deep + 1) (blanksL (blanksL r).tail) with
      | .error e => .error e
      | .ok (n, r2) => if (blanksL r2).head? = some 125 then .ok (.mk 7 0 ⟨#[]⟩ (ks ++ [⟨k.toArray⟩]) (ns ++ [n]), (blanksL r2).tail)
        else if (blanksL r2).head? = some 44 then (if (blanksL r2).tail.length < l.length then objL deep (blanksL r2).tail (ks ++ [⟨k.toArray⟩]) (ns ++ [n]) else .error 3)
        else .error 3)
      else .error 3)
    else .error 3
termination_by 2 * l.length + 1
decreasing_by all_goals omega
end
def parseL (l : List UInt8) : Except Int Nd :=
  if 65536 < l.length then .error 2 else match valL 0 (blanksL l) with
  | .error e => .error e
  | .ok (n, r) => if blanksL r = [] then .ok n else .error 3
/-! what is left is a rest -/
theorem blanksL_suf (l : List UInt8) : blanksL l <:+ l := List.dropWhile_suffix _
theorem numTail_le {b : Bool} {l : List UInt8} {n : Int} {r : List UInt8} (h : numTail b l = some (n, r)) : r <:+ l ∧ r.length < l.length := by
  unfold numTail at h
  split at h
  · cases h
  · rename_i hn
    simp only [Option.some.injEq, Prod.mk.injEq] at h
    obtain ⟨_, rfl⟩ := h
    have h0 : l.takeWhile digB ≠ [] := fun e => hn (.inl e)
    have h1 : l.takeWhile digB ++ l.dropWhile digB = l := List.takeWhile_append_dropWhile
    have h2 := congrArg List.length h1
    rw [List.length_append] at h2
    have h3 : 0 < (l.takeWhile digB).length := List.length_pos_iff.2 h0
    exact ⟨List.dropWhile_suffix _, by omega⟩
theorem numL_le {l : List UInt8} {n : Int} {r : List UInt8} (h : numL l = some (n, r)) : r <:+ l ∧ r.length < l.length := by
  unfold numL at h
  split at h
  · have := numTail_le h
    cases l with
    | nil => simp at *
    | cons c l => exact ⟨this.1.trans (List.suffix_cons _ _), by have := this.2; simp at *; omega⟩
  · exact numTail_le h
theorem unitL_le : ∀ (k : Nat) (n : Int) (l : List UInt8) (m : Int) (r : List UInt8), unitL k n l = some (m, r) → r <:+ l ∧ r.length + k = l.length
  | 0, n, l, m, r, h => by
    unfold unitL at h; simp at h; obtain ⟨_, rfl⟩ := h; exact ⟨List.suffix_refl _, rfl⟩
  | k + 1, n, [], m, r, h => by unfold unitL at h; cases h
  | k + 1, n, c :: l, m, r, h => by
    unfold unitL at h
    split at h
    · cases h
    · have := unitL_le k _ l m r h
      exact ⟨this.1.trans (List.suffix_cons _ _), by simp; omega⟩
theorem hexD_bd {c : UInt8} {h : Int} (e : hexD c = some h) : 0 ≤ h ∧ h < 16 := by
  unfold hexD at e
  split at e
  · cases e; omega
  · split at e
    · cases e; omega
    · split at e
      · cases e; omega
      · cases e
theorem unitL_bd : ∀ (k : Nat) (n : Int) (l : List UInt8) (m : Int) (r : List UInt8), 0 ≤ n → unitL k n l = some (m, r) → 0 ≤ m ∧ m < (n + 1) * 16 ^ k
  | 0, n, l, m, r, h0, h => by unfold unitL at h; simp at h; obtain ⟨rfl, _⟩ := h; simp; omega
  | k + 1, n, [], m, r, h0, h => by unfold unitL at h; cases h
  | k + 1, n, c :: l, m, r, h0, h => by
    unfold unitL at h
    split at h
    · cases h
    · rename_i x hx
      have hb := hexD_bd hx
      have := unitL_bd k (n * 16 + x) l m r (by omega) h
      refine ⟨this.1, Int.lt_of_lt_of_le this.2 ?_⟩
      rw [Int.pow_succ, Int.mul_comm (16 ^ k) 16, ← Int.mul_assoc]
      exact Int.mul_le_mul_of_nonneg_right (by omega) (Int.pow_nonneg (by omega))
theorem pointL_le {l : List UInt8} {n : Int} {r : List UInt8} (h : pointL l = some (n, r)) : r <:+ l ∧ r.length < l.length := by
  unfold pointL at h
  split at h
  · cases h
  · rename_i n1 r1 h1
    have k1 := unitL_le _ _ _ _ _ h1
    split at h
    · simp at h; obtain ⟨_, rfl⟩ := h; exact ⟨k1.1, by omega⟩
    · split at h
      · cases h
      · split at h
        · split at h
          · cases h
          · rename_i n2 r2 h2
            have k2 := unitL_le _ _ _ _ _ h2
            split at h
            · cases h
            · simp at h
              obtain ⟨_, rfl⟩ := h
              have := List.length_drop (l := r1) (i := 2)
              exact ⟨(k2.1.trans (List.drop_suffix _ _)).trans k1.1, by omega⟩
        · cases h
theorem escL_le {l b r : List UInt8} (h : escL l = some (b, r)) : r <:+ l ∧ r.length < l.length := by
  unfold escL at h
  cases l with
  | nil => simp at h
  | cons c l =>
    have hs : l <:+ c :: l ∧ l.length < (c :: l).length := ⟨List.suffix_cons _ _, by simp⟩
    simp only at h
    split at h
    · cases h; exact hs
    split at h
    · cases h; exact hs
    split at h
    · cases h; exact hs
    split at h
    · cases h; exact hs
    split at h
    · cases h; exact hs
    split at h
    · cases h; exact hs
    split at h
    · split at h
      · cases h
      · rename_i n r2 h2
        cases h
        have := pointL_le h2
        exact ⟨this.1.trans hs.1, by have := this.2; simp; omega⟩
    · cases h
theorem textT_nil (acc : List UInt8) : textT [] acc = none := by rw [textT]
theorem textT_cons (c : UInt8) (r acc : List UInt8) : textT (c :: r) acc =
    if c < 32 then none else if c = 34 then some (acc, r) else if c = 92 then (match escL r with
      | none => none
      | some (b, r2) => textT r2 (acc ++ b))
    else match decL (c :: r) with
      | none => none
      | some (_, m) => textT ((c :: r).drop m) (acc ++ (c :: r).take m) := by
  conv => lhs; rw [textT]
  split
  · rfl
  split
  · rfl
  split
  · cases he : escL r with
    | none => rfl
    | some p =>
      obtain ⟨b, r2⟩ := p
      have := (escL_le he).2
      simp only
      rw [if_pos (by omega)]
  · cases he : decL (c :: r) with
    | none => rfl
    | some p =>
      obtain ⟨x, m⟩ := p
      have := (dec_le _ _ _ he).1
      simp only
      rw [if_pos this]
theorem textT_le : ∀ (k : Nat) (l acc b r : List UInt8), l.length ≤ k → textT l acc = some (b, r) → r <:+ l ∧ r.length < l.length
  | 0, l, acc, b, r, hk, h => by
    have : l = [] := List.eq_nil_of_length_eq_zero (by omega)
    subst this
    rw [textT_nil] at h; cases h
  | k + 1, [], acc, b, r, hk, h => by rw [textT_nil] at h; cases h
  | k + 1, c :: l, acc, b, r, hk, h => by
    rw [textT_cons] at h
    have hs : l <:+ c :: l ∧ l.length < (c :: l).length := ⟨List.suffix_cons _ _, by simp⟩
    simp only [List.length_cons] at hk
    split at h
    · cases h
    split at h
    · cases h; exact hs
    split at h
    · split at h
      · cases h
      · rename_i b2 r2 h2
        have k2 := escL_le h2
        have k3 := textT_le k _ _ _ _ (by omega) h
        exact ⟨(k3.1.trans k2.1).trans hs.1, by simp; omega⟩
    · split at h
      · cases h
      · rename_i x m h2
        have k2 := dec_le _ _ _ h2
        have hd := List.length_drop (l := c :: l) (i := m)
        simp only [List.length_cons] at hd k2
        have k3 := textT_le k _ _ _ _ (by omega) h
        exact ⟨k3.1.trans (List.drop_suffix _ _), by simp only [List.length_cons]; omega⟩
theorem textL_le {l b r : List UInt8} (h : textL l = some (b, r)) : r <:+ l ∧ r.length < l.length := by
  unfold textL at h
  split at h
  · have := textT_le _ _ _ _ _ (Nat.le_refl _) h
    cases l with
    | nil => simp at *
    | cons c l => exact ⟨this.1.trans (List.suffix_cons _ _), by have := this.2; simp at *; omega⟩
  · cases h
end Go.Proofs.YtofkdeojabongaaDoor
