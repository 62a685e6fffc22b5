/- Plain laws of matching. -/
import Derived.Test.YtlmelclfdafhbaaTreeA
namespace Go.Proofs.Ytlmelclfdafhbaa
open Go.RowKit Go.PlainAid
set_option linter.unusedVariables false
set_option linter.unusedSimpArgs false
def segOk (c : UInt8) (t : List UInt8) : Prop := if c = 42 then True else if c = 37 then (47 : UInt8) ∉ t else t = [c]
def MatchL : List UInt8 → List UInt8 → Prop
  | [], s => s = []
  | c :: p, s => ∃ s1 s2, s = s1 ++ s2 ∧ segOk c s1 ∧ MatchL p s2
theorem matchL_app : ∀ (p q s : List UInt8), MatchL (p ++ q) s ↔ ∃ s1 s2, s = s1 ++ s2 ∧ MatchL p s1 ∧ MatchL q s2
  | [], q, s => by
    constructor
    · intro h; exact ⟨[], s, rfl, rfl, h⟩
    · rintro ⟨s1, s2, rfl, h1, h2⟩
      have : s1 = [] := h1
      subst this; exact h2
  | c :: p, q, s => by
    constructor
    · rintro ⟨s1, s2, rfl, h1, h2⟩
      obtain ⟨t1, t2, rfl, h3, h4⟩ := (matchL_app p q s2).1 h2
      exact ⟨s1 ++ t1, t2, by simp, ⟨s1, t1, rfl, h1, h3⟩, h4⟩
    · rintro ⟨s1, s2, rfl, ⟨t1, t2, rfl, h1, h2⟩, h3⟩
      exact ⟨t1, t2 ++ s2, by simp, h1, (matchL_app p q _).2 ⟨t2, s2, rfl, h2, h3⟩⟩
theorem matchL_one (c : UInt8) (s : List UInt8) : MatchL [c] s ↔ segOk c s := by
  constructor
  · rintro ⟨s1, s2, rfl, h1, h2⟩
    have : s2 = [] := h2
    subst this; simpa using h1
  · intro h; exact ⟨s, [], by simp, h, rfl⟩
theorem seg_nil (c : UInt8) : segOk c [] ↔ c = 42 ∨ c = 37 := by
  unfold segOk
  by_cases h1 : c = 42
  · simp [h1]
  · by_cases h2 : c = 37
    · simp [h2]
    · simp [h1, h2]
theorem seg_snoc (c d : UInt8) (t : List UInt8) (h : c = 42 ∨ c = 37) : segOk c (t ++ [d]) ↔ segOk c t ∧ (c = 42 ∨ d ≠ 47) := by
  unfold segOk
  by_cases h1 : c = 42
  · simp [h1]
  · have h2 : c = 37 := by rcases h with h | h; exact absurd h h1; exact h
    subst h2
    simp [eq_comm]
theorem bt_at (s : ByteArray) (k : Nat) (h : k < s.toList.length) : bt s k = (s.toList[k].toNat : Int) := bt_eq s k _ (List.getElem?_eq_getElem h)
theorem u8_eq (c : UInt8) (n : Nat) (hn : n < 256) : ((c.toNat : Int) == (n : Int)) = decide (c = UInt8.ofNat n) := by
  rw [Bool.eq_iff_iff, beq_iff_eq, decide_eq_true_iff]
  constructor
  · intro h
    apply UInt8.toNat_inj.1
    simp
    omega
  · rintro rfl
    simp; omega
theorem rowT_iff (p s : ByteArray) : ∀ i, i ≤ p.toList.length → ∀ k, k ≤ s.toList.length → (rowT p s i k = true ↔ MatchL (p.toList.take i) (s.toList.take k)) := by
  intro i
  induction i with
  | zero =>
    intro _ k hk
    simp only [rowT, List.take_zero, MatchL]
    rw [beq_iff_eq]
    constructor
    · rintro rfl; rfl
    · intro h
      have := congrArg List.length h
      simp at this
      rcases this with h | h
      · exact h
      · rw [h] at hk; simpa using hk
  | succ i ihi =>
    intro hi k
    have hip : i < p.toList.length := by omega
    have e42 := u8_eq (p.toList[i]) 42 (by decide)
    have e37 := u8_eq (p.toList[i]) 37 (by decide)
    have hpi := bt_at p i hip
    rw [List.take_succ_eq_append_getElem hip]
    have hsp : ((bt p i == 42 || bt p i == 37) = true) ↔ (p.toList[i] = 42 ∨ p.toList[i] = 37) := by
      rw [hpi, Bool.or_eq_true]
      have a1 : ((p.toList[i].toNat : Int) == 42) = decide (p.toList[i] = 42) := e42
      have a2 : ((p.toList[i].toNat : Int) == 37) = decide (p.toList[i] = 37) := e37
      rw [a1, a2, decide_eq_true_iff, decide_eq_true_iff]
    induction k with
    | zero =>
      intro _
      simp only [rowT, stepT]
      rw [Bool.and_eq_true, hsp, ihi (by omega) 0 (by omega), matchL_app]
      simp only [List.take_zero]
      constructor
      · rintro ⟨h1, h2⟩
        exact ⟨[], [], rfl, h2, (matchL_one _ _).2 ((seg_nil _).2 h1)⟩
      · rintro ⟨s1, s2, h0, h1, h2⟩
        have h3 : s1 = [] ∧ s2 = [] := by simpa using h0.symm
        obtain ⟨rfl, rfl⟩ := h3
        exact ⟨(seg_nil _).1 ((matchL_one _ _).1 h2), h1⟩
    | succ k ihk =>
      intro hk
      have hks : k < s.toList.length := by omega
      have ihk' := ihk (by omega)
      have hbs := bt_at s k hks
      rw [List.take_succ_eq_append_getElem hks]
      have e : rowT p s (i + 1) (k + 1) = if (bt p i == 42 || bt p i == 37) = true then rowT p s i (k + 1) || (rowT p s (i + 1) k && (bt p i == 42 || bt s k != 47)) else rowT p s i k && (bt s k == bt p i) := rfl
      rw [e]
      have ih1 := ihi (by omega) (k + 1) hk
      rw [List.take_succ_eq_append_getElem hks] at ih1
      have ih0 := ihi (by omega) k (by omega)
      by_cases hc : p.toList[i] = 42 ∨ p.toList[i] = 37
      · rw [if_pos (hsp.2 hc), Bool.or_eq_true, Bool.and_eq_true, ih1, ihk']
        have ex : ((bt p i == 42 || bt s k != 47) = true) ↔ (p.toList[i] = 42 ∨ s.toList[k] ≠ 47) := by
          rw [hpi, hbs, Bool.or_eq_true]
          have a1 : ((p.toList[i].toNat : Int) == 42) = decide (p.toList[i] = 42) := e42
          have a2 : ((s.toList[k].toNat : Int) == 47) = decide (s.toList[k] = 47) := u8_eq (s.toList[k]) 47 (by decide)
          rw [a1, decide_eq_true_iff, bne, a2]
          simp
        rw [ex, matchL_app, matchL_app]
        constructor
        · rintro (h | ⟨⟨s1, s2, h0, h1, h2⟩, h3⟩)
          · exact ⟨_, [], by simp, h, (matchL_one _ _).2 ((seg_nil _).2 hc)⟩
          · refine ⟨s1, s2 ++ [s.toList[k]], by rw [h0]; simp, h1, (matchL_one _ _).2 ((seg_snoc _ _ _ hc).2 ⟨(matchL_one _ _).1 h2, h3⟩)⟩
        · rintro ⟨s1, s2, h0, h1, h2⟩
          rcases List.eq_nil_or_concat s2 with rfl | ⟨t, d, rfl⟩
          · left; rw [List.append_nil] at h0; rw [h0]; exact h1
          · right
            rw [List.concat_eq_append] at h0 h2
            rw [← List.append_assoc] at h0
            have h4 := List.append_inj' h0 rfl
            have hd : s.toList[k] = d := by simpa using h4.2
            obtain ⟨h5, h6⟩ := (seg_snoc _ _ _ hc).1 ((matchL_one _ _).1 h2)
            exact ⟨⟨s1, t, h4.1, h1, (matchL_one _ _).2 h5⟩, by rw [hd]; exact h6⟩
      · rw [if_neg (fun h => hc (hsp.1 h)), Bool.and_eq_true, ih0]
        have ex : ((bt s k == bt p i) = true) ↔ s.toList[k] = p.toList[i] := by
          rw [hpi, hbs, beq_iff_eq]
          constructor
          · intro h; apply UInt8.toNat_inj.1; omega
          · intro h; rw [h]
        rw [ex, matchL_app]
        have hseg : ∀ t, segOk p.toList[i] t ↔ t = [p.toList[i]] := fun t => by
          unfold segOk
          rw [if_neg (fun h => hc (Or.inl h)), if_neg (fun h => hc (Or.inr h))]
        constructor
        · rintro ⟨h1, h2⟩
          exact ⟨_, [s.toList[k]], rfl, h1, (matchL_one _ _).2 ((hseg _).2 (by rw [h2]))⟩
        · rintro ⟨s1, s2, h0, h1, h2⟩
          have h3 := (hseg _).1 ((matchL_one _ _).1 h2)
          subst h3
          have h4 := List.append_inj' h0 rfl
          exact ⟨by rw [h4.1]; exact h1, by simpa using h4.2⟩
theorem matchB_iff (p s : ByteArray) : matchB p s = true ↔ MatchL p.toList s.toList := by
  unfold matchB
  have := rowT_iff p s p.size (by rw [toList_len]; omega) s.size (by rw [toList_len]; omega)
  rw [this, ← toList_len p, List.take_length, ← toList_len s, List.take_length]
def plainL (l : List UInt8) : Prop := ∀ c ∈ l, c ≠ 42 ∧ c ≠ 37
theorem match_self : ∀ l : List UInt8, plainL l → MatchL l l
  | [], _ => rfl
  | c :: l, h => ⟨[c], l, rfl, by
      unfold segOk
      rw [if_neg (h c (by simp)).1, if_neg (h c (by simp)).2], match_self l fun d hd => h d (by simp [hd])⟩
theorem match_only : ∀ (l s : List UInt8), plainL l → MatchL l s → s = l
  | [], s, _, h => h
  | c :: l, s, hp, ⟨s1, s2, e, h1, h2⟩ => by
      unfold segOk at h1
      rw [if_neg (hp c (by simp)).1, if_neg (hp c (by simp)).2] at h1
      have := match_only l s2 (fun d hd => hp d (by simp [hd])) h2
      rw [e, h1, this]; rfl
theorem match_star (s : List UInt8) : MatchL [42] s := (matchL_one _ _).2 (by unfold segOk; simp)
theorem match_percent (s : List UInt8) : MatchL [37] s ↔ (47 : UInt8) ∉ s := by
  rw [matchL_one]; unfold segOk; simp
end Go.Proofs.Ytlmelclfdafhbaa
