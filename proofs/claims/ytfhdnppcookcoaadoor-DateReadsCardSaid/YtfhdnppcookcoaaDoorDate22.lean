/- Cut at the dashes: plain laws. -/
import Derived.Test.YtfhdnppcookcoaaDoorDate8
import Derived.Lib.SplitLaws
import Derived.Lib.IndexBytes
namespace Go.Proofs.YtfhdnppcookcoaaDoor
open Go.RowKit Go.PlainAid
set_option linter.unusedVariables false
set_option linter.unusedSimpArgs false
def dsplit : List UInt8 → List (List UInt8)
  | [] => [[]]
  | c :: l => if c = 45 then [] :: dsplit l else (match dsplit l with | [] => [[c]] | p :: ps => (c :: p) :: ps)
theorem dsplit_none (l : List UInt8) (h : (45 : UInt8) ∉ l) : dsplit l = [l] := by
  induction l with
  | nil => rfl
  | cons c l ih =>
    simp only [List.mem_cons, not_or] at h
    simp only [dsplit]
    rw [if_neg (fun e => h.1 e.symm), ih h.2]
theorem dsplit_hit (a r : List UInt8) (h : (45 : UInt8) ∉ a) : dsplit (a ++ 45 :: r) = a :: dsplit r := by
  induction a with
  | nil => simp [dsplit]
  | cons c a ih =>
    simp only [List.mem_cons, not_or] at h
    simp only [List.cons_append, dsplit]
    rw [if_neg (fun e => h.1 e.symm), ih h.2]
theorem dash_cases (l : List UInt8) : (45 : UInt8) ∉ l ∨ ∃ a r, l = a ++ 45 :: r ∧ (45 : UInt8) ∉ a := by
  induction l with
  | nil => exact .inl (by simp)
  | cons c l ih =>
    by_cases hc : c = 45
    · exact .inr ⟨[], l, by rw [hc]; rfl, by simp⟩
    · rcases ih with h | ⟨a, r, rfl, h⟩
      · exact .inl (by simp only [List.mem_cons, not_or]; exact ⟨fun e => hc e.symm, h⟩)
      · exact .inr ⟨c :: a, r, rfl, by simp only [List.mem_cons, not_or]; exact ⟨fun e => hc e.symm, h⟩⟩
theorem indexByte_none (l : List UInt8) (h : (45 : UInt8) ∉ l) : Lib.indexByte l 45 = -1 := by
  induction l with
  | nil => rfl
  | cons c l ih =>
    simp only [List.mem_cons, not_or] at h
    have hc : ¬ c = 45 := fun e => h.1 e.symm
    simp [Lib.indexByte, ih h.2, hc]
theorem indexByte_hit (a r : List UInt8) (h : (45 : UInt8) ∉ a) : Lib.indexByte (a ++ 45 :: r) 45 = a.length := by
  induction a with
  | nil => simp [Lib.indexByte]
  | cons c a ih =>
    simp only [List.mem_cons, not_or] at h
    have hc : ¬ c = 45 := fun e => h.1 e.symm
    simp [Lib.indexByte, ih h.2, hc]
    try omega
theorem splitK_dash (n : Nat) : ∀ l : List UInt8, l.length ≤ n → Lib.splitK [45] 0 (l.count 45) l = dsplit l := by
  induction n with
  | zero =>
    intro l h
    obtain rfl : l = [] := List.eq_nil_of_length_eq_zero (by omega)
    rfl
  | succ n ih =>
    intro l h
    rcases dash_cases l with h0 | ⟨a, r, rfl, h0⟩
    · rw [List.count_eq_zero_of_not_mem h0, dsplit_none l h0]; rfl
    · have hc : (a ++ 45 :: r).count 45 = r.count 45 + 1 := by
        rw [List.count_append, List.count_eq_zero_of_not_mem h0, List.count_cons]; simp
      have hi : Lib.index (a ++ 45 :: r) [45] = a.length := by rw [Lib.index_one, indexByte_hit a r h0]
      rw [hc, dsplit_hit a r h0]
      unfold Lib.splitK
      have hn : ¬ ((a.length : Int) == -1) = true := by rw [beq_iff_eq]; omega
      rw [hi, if_neg hn]
      have e1 : (a ++ 45 :: r).take ((a.length : Int).toNat + 0) = a := by simp
      have e2 : (a ++ 45 :: r).drop ((a.length : Int).toNat + [(45 : UInt8)].length) = r := by
        rw [Int.toNat_natCast, List.drop_append]
        simp
      rw [e1, e2, ih r (by simp at h; omega)]
theorem dsplit_length (l : List UInt8) : (dsplit l).length = l.count 45 + 1 := by
  induction l with
  | nil => rfl
  | cons c l ih =>
    simp only [dsplit]
    by_cases hc : c = 45
    · rw [if_pos hc, hc, List.length_cons, ih, List.count_cons_self]
    · rw [if_neg hc, List.count_cons_of_ne hc]
      generalize dsplit l = q at ih
      cases q with
      | nil => simp only [List.length_nil] at ih; omega
      | cons p ps => exact ih
/-- the parts of a text between dashes -/
theorem split_parts (s : ByteArray) : ∃ parts : List ByteArray, Lib.splitB ⟨#[45]⟩ 0 (Lib.countB s ⟨#[45]⟩) s = parts ∧ parts.length = Lib.countB s ⟨#[45]⟩ + 1 ∧ parts.map (fun p => p.toList) = dsplit s.toList := by
  have hc : Lib.countB s ⟨#[45]⟩ = s.toList.count 45 := by
    have h := Lib.count_one 45 s.data.toList
    rw [ByteArray.toList_eq]
    exact h
  have hd := Lib.splitB_data ⟨#[45]⟩ 0 (Lib.countB s ⟨#[45]⟩) s
  have he : (Lib.splitB ⟨#[45]⟩ 0 (Lib.countB s ⟨#[45]⟩) s).map (fun p => p.toList) = dsplit s.toList := by
    rw [← splitK_dash _ s.toList (Nat.le_refl _), ← hc]
    rw [ByteArray.toList_eq, ← hd]
    apply List.map_congr_left
    intro p _
    rw [ByteArray.toList_eq]
  refine ⟨_, rfl, ?_, he⟩
  have hl := congrArg List.length he
  rw [List.length_map, dsplit_length, ← hc] at hl
  exact hl
def readDayV (s : ByteArray) : Int × Int :=
  match dsplit s.toList with
  | [a, b, c] =>
    if a.length ≤ 2 then
      (if (dateV ⟨a.toArray⟩ ⟨b.toArray⟩ ⟨c.toArray⟩).2 = true ∧ 0 ≤ (dateV ⟨a.toArray⟩ ⟨b.toArray⟩ ⟨c.toArray⟩).1 then ((dateV ⟨a.toArray⟩ ⟨b.toArray⟩ ⟨c.toArray⟩).1 * 86400, 0) else (0, 3))
    else (0, 3)
  | _ => (0, 3)
theorem ba_of_list (p : ByteArray) : (⟨p.toList.toArray⟩ : ByteArray) = p := by
  rw [ByteArray.toList_eq]
theorem readDay_parts (s a b c : ByteArray) (h : dsplit s.toList = [a.toList, b.toList, c.toList]) : readDayV s = if a.size ≤ 2 then (if (dateV a b c).2 = true ∧ 0 ≤ (dateV a b c).1 then ((dateV a b c).1 * 86400, 0) else (0, 3)) else (0, 3) := by
  have hl : a.toList.length = a.size := by rw [ByteArray.toList_eq]; simp
  unfold readDayV
  rw [h]
  simp only [ba_of_list, hl]
theorem readDay_other (s : ByteArray) (h : (dsplit s.toList).length ≠ 3) : readDayV s = (0, 3) := by
  unfold readDayV
  split
  · rename_i a b c e; rw [e] at h; simp at h
  · rfl
end Go.Proofs.YtfhdnppcookcoaaDoor
