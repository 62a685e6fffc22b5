/- The order of texts of seconds. -/
import Derived.Test.YtfhdnppcookcoaaDoorDate12
import Derived.Test.YtfhdnppcookcoaaDoorDateW
namespace Go.Proofs.YtfhdnppcookcoaaDoor
set_option linter.unusedVariables false
set_option linter.unusedSimpArgs false
theorem less_irrefl (a : List UInt8) : Op.bytesLess a a = false := by
  induction a with
  | nil => rfl
  | cons x a ih => simp [Op.bytesLess, ih]
theorem less_asymm (a b : List UInt8) (h : Op.bytesLess a b = true) : Op.bytesLess b a = false := by
  induction a generalizing b with
  | nil => cases b <;> simp_all [Op.bytesLess]
  | cons x a ih =>
    cases b with
    | nil => simp [Op.bytesLess] at h
    | cons y b =>
      simp only [Op.bytesLess, Bool.or_eq_true, Bool.and_eq_true, decide_eq_true_eq, beq_iff_eq] at h
      simp only [Op.bytesLess, Bool.or_eq_false_iff, Bool.and_eq_false_iff, decide_eq_false_iff_not, beq_eq_false_iff_ne]
      rw [UInt8.lt_iff_toNat_lt] at *
      rcases h with h | ⟨h, h2⟩
      · refine ⟨by omega, .inl fun e => ?_⟩
        subst e; omega
      · subst h
        exact ⟨by omega, .inr (ih b h2)⟩
theorem less_same (a c d : List UInt8) : Op.bytesLess (a ++ c) (a ++ d) = Op.bytesLess c d := by
  induction a with
  | nil => rfl
  | cons x a ih =>
    have : ¬ x < x := by rw [UInt8.lt_iff_toNat_lt]; omega
    simp [Op.bytesLess, ih, this]
theorem less_left (a b c d : List UInt8) (hl : a.length = b.length) (h : Op.bytesLess a b = true) : Op.bytesLess (a ++ c) (b ++ d) = true := by
  induction a generalizing b with
  | nil =>
    cases b with
    | nil => simp [Op.bytesLess] at h
    | cons y b => simp at hl
  | cons x a ih =>
    cases b with
    | nil => simp at hl
    | cons y b =>
      simp only [Op.bytesLess, Bool.or_eq_true, Bool.and_eq_true, decide_eq_true_eq, beq_iff_eq] at h
      simp only [List.cons_append, Op.bytesLess, Bool.or_eq_true, Bool.and_eq_true, decide_eq_true_eq, beq_iff_eq]
      rcases h with h | ⟨h, h2⟩
      · exact .inl h
      · exact .inr ⟨h, ih b (by simpa using hl) h2⟩
def nb (c : Int) : UInt8 := UInt8.ofNat c.toNat
theorem nb_lt (a b : Int) (h0 : 0 ≤ a) (h1 : b < 256) (h : a < b) : nb a < nb b := by
  rw [UInt8.lt_iff_toNat_lt]
  have := toNat_ofNat a h0 (by omega)
  have := toNat_ofNat b (by omega) h1
  unfold nb
  omega
theorem less_cons (a b : Int) (l m : List Int) (h0 : 0 ≤ a) (h1 : b < 256) (h : a < b ∨ (a = b ∧ Op.bytesLess (l.map nb) (m.map nb) = true)) : Op.bytesLess ((a :: l).map nb) ((b :: m).map nb) = true := by
  simp only [List.map_cons, Op.bytesLess, Bool.or_eq_true, Bool.and_eq_true, decide_eq_true_eq, beq_iff_eq]
  rcases h with h | ⟨h, h2⟩
  · exact .inl (nb_lt a b h0 h1 h)
  · exact .inr ⟨by rw [h], h2⟩
theorem two_less (n m : Int) (h0 : 0 ≤ n) (h : n < m) (h1 : m < 100) : Op.bytesLess (wideS n 2).toList (wideS m 2).toList = true := by
  rw [wideS_two n h0 (by omega), wideS_two m (by omega) h1, nums_toList, nums_toList]
  refine less_cons _ _ _ _ (by omega) (by omega) ?_
  by_cases e : n / 10 < m / 10
  · exact .inl (by omega)
  · refine .inr ⟨by omega, less_cons _ _ _ _ (by omega) (by omega) (.inl (by omega))⟩
theorem four_less (n m : Int) (h0 : 1000 ≤ n) (h : n < m) (h1 : m < 10000) : Op.bytesLess (wideS n 4).toList (wideS m 4).toList = true := by
  rw [wideS_four n h0 (by omega), wideS_four m (by omega) h1, nums_toList, nums_toList]
  refine less_cons _ _ _ _ (by omega) (by omega) ?_
  by_cases e : n / 1000 < m / 1000
  · exact .inl (by omega)
  · refine .inr ⟨by omega, less_cons _ _ _ _ (by omega) (by omega) ?_⟩
    by_cases e : n / 100 < m / 100
    · exact .inl (by omega)
    · refine .inr ⟨by omega, less_cons _ _ _ _ (by omega) (by omega) ?_⟩
      by_cases e : n / 10 < m / 10
      · exact .inl (by omega)
      · refine .inr ⟨by omega, less_cons _ _ _ _ (by omega) (by omega) (.inl (by omega))⟩
theorem tl_len (s : ByteArray) : s.toList.length = s.size := by rw [ByteArray.toList_eq]; simp
theorem two_len (n : Int) (h0 : 0 ≤ n) (h1 : n < 100) : (wideS n 2).toList.length = 2 := by rw [tl_len, wideS_two_size n h0 h1]
theorem four_len (n : Int) (h0 : 1000 ≤ n) (h1 : n < 10000) : (wideS n 4).toList.length = 4 := by rw [tl_len, wideS_four_size n h0 h1]
theorem dayNum_lt (y m d y' m' d' : Int) (h0 : 0 ≤ y) (h0' : 0 ≤ y') (v : Valid y m d) (v' : Valid y' m' d') (h : y < y' ∨ (y = y' ∧ (m < m' ∨ (m = m' ∧ d < d')))) : dayNum y m d < dayNum y' m' d' := by
  obtain ⟨m0, m1, d0, d1⟩ := v
  obtain ⟨m0', m1', d0', d1'⟩ := v'
  have b := bef_bound y m m0 m1
  have b' := bef_bound y' m' m0' m1'
  have s := ahead_succ0 y h0
  unfold dayNum
  rcases h with q | ⟨rfl, q | ⟨rfl, q⟩⟩
  · have := ahead_mono (y + 1) y' (by omega) (by omega); omega
  · have h1 := bef_mono y (m + 1 - 1).toNat (m' - 1).toNat (by omega)
    rw [bef_step y m m0] at h1; omega
  · omega
theorem lex_of_lt (y m d y' m' d' : Int) (h0 : 0 ≤ y) (h0' : 0 ≤ y') (v : Valid y m d) (v' : Valid y' m' d') (h : dayNum y m d < dayNum y' m' d') : y < y' ∨ (y = y' ∧ (m < m' ∨ (m = m' ∧ d < d'))) := by
  rcases Int.lt_trichotomy y y' with q | q | q
  · exact .inl q
  · subst q
    rcases Int.lt_trichotomy m m' with q | q | q
    · exact .inr ⟨rfl, .inl q⟩
    · subst q
      rcases Int.lt_trichotomy d d' with q | q | q
      · exact .inr ⟨rfl, .inr ⟨rfl, q⟩⟩
      · subst q; omega
      · have := dayNum_lt y m d' y m d h0 h0 v' v (.inr ⟨rfl, .inr ⟨rfl, q⟩⟩); omega
    · have := dayNum_lt y m' d' y m d h0 h0 v' v (.inr ⟨rfl, .inl q⟩); omega
  · have := dayNum_lt y' m' d' y m d h0' h0 v' v (.inl q); omega
theorem rfcV_list (y m d s : Int) : (rfcV y m d s).toList = (wideS y 4).toList ++ ([45] ++ ((wideS m 2).toList ++ ([45] ++ ((wideS d 2).toList ++ ([84] ++ ((wideS (s / 3600) 2).toList ++ ([58] ++ ((wideS (s / 60 % 60) 2).toList ++ ([58] ++ ((wideS (s % 60) 2).toList ++ [90])))))))))) := by
  unfold rfcV
  have e1 : (⟨#[45]⟩ : ByteArray).toList = [45] := by decide +kernel
  have e2 : (⟨#[84]⟩ : ByteArray).toList = [84] := by decide +kernel
  have e3 : (⟨#[58]⟩ : ByteArray).toList = [58] := by decide +kernel
  have e4 : (⟨#[90]⟩ : ByteArray).toList = [90] := by decide +kernel
  simp only [app_toList, e1, e2, e3, e4, List.append_assoc]
theorem secs_in' (n : Int) (h0 : 0 ≤ n) (h : n ≤ 253402300799) : secs n = n := by unfold secs; omega
theorem rfc_less (x y : Int) (h0 : 0 ≤ x) (h : x < y) (h1 : y ≤ 253402300799) : Op.bytesLess (rfcS x).toList (rfcS y).toList = true := by
  unfold rfcS
  rw [secs_in' x h0 (by omega), secs_in' y (by omega) h1, rfcV_list, rfcV_list]
  obtain ⟨v, e⟩ := civ_valid (x / 86400) (by omega)
  obtain ⟨v', e'⟩ := civ_valid (y / 86400) (by omega)
  have yy := civ_year (x / 86400) (by omega) (by omega)
  have yy' := civ_year (y / 86400) (by omega) (by omega)
  generalize (civ (x / 86400)).1 = Y at *
  generalize (civ (x / 86400)).2.1 = M at *
  generalize (civ (x / 86400)).2.2 = D at *
  generalize (civ (y / 86400)).1 = Y' at *
  generalize (civ (y / 86400)).2.1 = M' at *
  generalize (civ (y / 86400)).2.2 = D' at *
  have hM := v.1; have hM2 := v.2.1; have hD := v.2.2.1; have hD2 := v.2.2.2; have hD3 := mdays_le Y M
  have hM' := v'.1; have hM2' := v'.2.1; have hD' := v'.2.2.1; have hD2' := v'.2.2.2; have hD3' := mdays_le Y' M'
  have f1 := four_len Y (by omega) (by omega)
  have f1' := four_len Y' (by omega) (by omega)
  have f2 := two_len M (by omega) (by omega)
  have f2' := two_len M' (by omega) (by omega)
  have f3 := two_len D (by omega) (by omega)
  have f3' := two_len D' (by omega) (by omega)
  have f4 := two_len (x % 86400 / 3600) (by omega) (by omega)
  have f4' := two_len (y % 86400 / 3600) (by omega) (by omega)
  have f5 := two_len (x % 86400 / 60 % 60) (by omega) (by omega)
  have f5' := two_len (y % 86400 / 60 % 60) (by omega) (by omega)
  have f6 := two_len (x % 86400 % 60) (by omega) (by omega)
  have f6' := two_len (y % 86400 % 60) (by omega) (by omega)
  by_cases hd : x / 86400 < y / 86400
  · rcases lex_of_lt Y M D Y' M' D' (by omega) (by omega) v v' (by omega) with q | ⟨rfl, q | ⟨rfl, q⟩⟩
    · exact less_left _ _ _ _ (by rw [f1, f1']) (four_less _ _ (by omega) q (by omega))
    · rw [less_same, less_same]
      exact less_left _ _ _ _ (by rw [f2, f2']) (two_less _ _ (by omega) q (by omega))
    · rw [less_same, less_same, less_same, less_same]
      exact less_left _ _ _ _ (by rw [f3, f3']) (two_less _ _ (by omega) q (by omega))
  · obtain ⟨rfl, rfl, rfl⟩ := dayNum_inj Y M D Y' M' D' (by omega) (by omega) v v' (by omega)
    rw [less_same, less_same, less_same, less_same, less_same, less_same]
    by_cases hh : x % 86400 / 3600 < y % 86400 / 3600
    · exact less_left _ _ _ _ (by rw [f4, f4']) (two_less _ _ (by omega) hh (by omega))
    · have eh : x % 86400 / 3600 = y % 86400 / 3600 := by omega
      rw [eh, less_same, less_same]
      by_cases hm : x % 86400 / 60 % 60 < y % 86400 / 60 % 60
      · exact less_left _ _ _ _ (by rw [f5, f5']) (two_less _ _ (by omega) hm (by omega))
      · have em : x % 86400 / 60 % 60 = y % 86400 / 60 % 60 := by omega
        rw [em, less_same, less_same]
        exact less_left _ _ _ _ (by rw [f6, f6']) (two_less _ _ (by omega) (by omega) (by omega))
end Go.Proofs.YtfhdnppcookcoaaDoor
