/- Days and dates: plain laws. -/
import Derived.Test.YtfhdnppcookcoaaDoorDateC
namespace Go.Proofs.YtfhdnppcookcoaaDoor
set_option linter.unusedVariables false
set_option linter.unusedSimpArgs false
def leapB (y : Int) : Bool := y % 4 == 0 && (!(y % 100 == 0) || y % 400 == 0)
theorem leapB_iff (y : Int) : leapB y = true ↔ y % 4 = 0 ∧ (y % 100 ≠ 0 ∨ y % 400 = 0) := by unfold leapB; simp
def mdays (y m : Int) : Int := if m = 2 then (if leapB y = true then 29 else 28) else if m = 4 ∨ m = 6 ∨ m = 9 ∨ m = 11 then 30 else 31
def ahead (y : Int) : Int := if y ≤ 0 then 0 else 365 * y + (y - 1) / 4 - (y - 1) / 100 + (y - 1) / 400 + 1
/-- the days of the first k months -/
def bef (y : Int) : Nat → Int
  | 0 => 0
  | k + 1 => bef y k + mdays y (k + 1)
def dayNum (y m d : Int) : Int := ahead y - 719528 + bef y (m - 1).toNat + d - 1
def Valid (y m d : Int) : Prop := 1 ≤ m ∧ m ≤ 12 ∧ 1 ≤ d ∧ d ≤ mdays y m
def civY (n : Int) : Int := ((n + 719468) % 146097 - (n + 719468) % 146097 / 1460 + (n + 719468) % 146097 / 36524 - (n + 719468) % 146097 / 146096) / 365
def civR (n : Int) : Int := (n + 719468) % 146097 - (365 * civY n + civY n / 4 - civY n / 100)
def civM (n : Int) : Int := (5 * civR n + 2) / 153
def civ (n : Int) : Int × Int × Int :=
  if 12 < civM n + 3 then ((n + 719468) / 146097 * 400 + civY n + 1, civM n + 3 - 12, civR n - (153 * civM n + 2) / 5 + 1)
  else ((n + 719468) / 146097 * 400 + civY n, civM n + 3, civR n - (153 * civM n + 2) / 5 + 1)
theorem civ_chk (d : Nat) (h : d < 146097) : civChk d = true := by
  have h1 := List.all_eq_true.1 civ_checked (d / 366) (List.mem_range.2 (by omega))
  have h2 := List.all_eq_true.1 h1 (d % 366) (List.mem_range.2 (by omega))
  rw [show 366 * (d / 366) + d % 366 = d by omega] at h2
  exact h2
theorem nbt {a b : Nat} : Nat.beq a b = true ↔ a = b := ⟨Nat.eq_of_beq_eq_true, fun h => by subst h; exact Nat.beq_refl a⟩
theorem nbf {a b : Nat} : Nat.beq a b = false ↔ a ≠ b := by rw [← Bool.not_eq_true, nbt]
theorem civ_step (d : Nat) (h : d < 146097) (y s : Nat) (hy : y = (d - d / 1460 + d / 36524 - d / 146096) / 365) (hs : s = 365 * y + y / 4 - y / 100) :
    s ≤ d ∧ d - s ≤ 365 ∧ y ≤ 399 ∧ (d - s = 365 → (y + 1) % 4 = 0 ∧ ((y + 1) % 100 ≠ 0 ∨ (y + 1) % 400 = 0)) := by
  have h1 := civ_chk d h
  unfold civChk at h1
  simp only [← hy, ← hs] at h1
  simp only [Bool.or_eq_true, Bool.and_eq_true, Bool.not_eq_true', Nat.ble_eq, nbt, nbf] at h1
  rcases h1 with h1 | ⟨⟨⟨h1, h2⟩, h3⟩, h4⟩
  · omega
  · refine ⟨h1, by omega, h3, fun e => ?_⟩
    rcases h4 with h4 | ⟨h4, h5⟩
    · exact absurd e h4
    · exact ⟨h4, h5⟩
theorem civ_parts (n : Int) (h0 : 0 ≤ n) : 0 ≤ civR n ∧ civR n ≤ 365 ∧ 0 ≤ civY n ∧ civY n ≤ 399 ∧ (civR n = 365 → leapB (civY n + 1) = true) := by
  obtain ⟨d, hd⟩ := Int.eq_ofNat_of_zero_le (show 0 ≤ (n + 719468) % 146097 by omega)
  have hlt : d < 146097 := by omega
  obtain ⟨y, hy⟩ : ∃ y, y = (d - d / 1460 + d / 36524 - d / 146096) / 365 := ⟨_, rfl⟩
  obtain ⟨s, hs⟩ : ∃ s, s = 365 * y + y / 4 - y / 100 := ⟨_, rfl⟩
  obtain ⟨c1, c2, c3, c4⟩ := civ_step d hlt y s hy hs
  have ey : civY n = y := by unfold civY; rw [hd]; omega
  have er : civR n = ((d - s : Nat) : Int) := by unfold civR; rw [hd, ey]; omega
  rw [er, ey]
  refine ⟨by omega, by omega, by omega, by omega, fun e => ?_⟩
  rw [leapB_iff]
  have := c4 (by omega)
  omega
def febD (y : Int) : Int := if leapB y = true then 29 else 28
theorem bef_vals (y : Int) : bef y 0 = 0 ∧ bef y 1 = 31 ∧ bef y 2 = 31 + febD y ∧ bef y 3 = 62 + febD y ∧ bef y 4 = 92 + febD y ∧ bef y 5 = 123 + febD y ∧ bef y 6 = 153 + febD y ∧ bef y 7 = 184 + febD y ∧ bef y 8 = 215 + febD y ∧
    bef y 9 = 245 + febD y ∧ bef y 10 = 276 + febD y ∧ bef y 11 = 306 + febD y ∧ bef y 12 = 337 + febD y := by
  have h1 : bef y 1 = 31 := by simp [bef, mdays]
  have h2 : bef y 2 = 31 + febD y := by show bef y 1 + mdays y ((1 : Nat) + 1) = _; rw [h1]; rfl
  have h3 : bef y 3 = 62 + febD y := by show bef y 2 + mdays y ((2 : Nat) + 1) = _; rw [h2]; simp [mdays]; omega
  have h4 : bef y 4 = 92 + febD y := by show bef y 3 + mdays y ((3 : Nat) + 1) = _; rw [h3]; simp [mdays]; omega
  have h5 : bef y 5 = 123 + febD y := by show bef y 4 + mdays y ((4 : Nat) + 1) = _; rw [h4]; simp [mdays]; omega
  have h6 : bef y 6 = 153 + febD y := by show bef y 5 + mdays y ((5 : Nat) + 1) = _; rw [h5]; simp [mdays]; omega
  have h7 : bef y 7 = 184 + febD y := by show bef y 6 + mdays y ((6 : Nat) + 1) = _; rw [h6]; simp [mdays]; omega
  have h8 : bef y 8 = 215 + febD y := by show bef y 7 + mdays y ((7 : Nat) + 1) = _; rw [h7]; simp [mdays]; omega
  have h9 : bef y 9 = 245 + febD y := by show bef y 8 + mdays y ((8 : Nat) + 1) = _; rw [h8]; simp [mdays]; omega
  have h10 : bef y 10 = 276 + febD y := by show bef y 9 + mdays y ((9 : Nat) + 1) = _; rw [h9]; simp [mdays]; omega
  have h11 : bef y 11 = 306 + febD y := by show bef y 10 + mdays y ((10 : Nat) + 1) = _; rw [h10]; simp [mdays]; omega
  have h12 : bef y 12 = 337 + febD y := by show bef y 11 + mdays y ((11 : Nat) + 1) = _; rw [h11]; simp [mdays]; omega
  exact ⟨rfl, h1, h2, h3, h4, h5, h6, h7, h8, h9, h10, h11, h12⟩
theorem feb_cases (y : Int) : (febD y = 29 ∧ y % 4 = 0 ∧ (y % 100 ≠ 0 ∨ y % 400 = 0)) ∨ (febD y = 28 ∧ (y % 4 ≠ 0 ∨ (y % 100 = 0 ∧ y % 400 ≠ 0))) := by
  unfold febD
  by_cases h : leapB y = true
  · rw [if_pos h]; exact .inl ⟨rfl, (leapB_iff y).1 h⟩
  · rw [if_neg h]
    refine .inr ⟨rfl, ?_⟩
    rw [leapB_iff] at h
    omega
theorem ahead_val (y : Int) (h : 0 ≤ y) : ahead (y + 1) = 365 * (y + 1) + y / 4 - y / 100 + y / 400 + 1 := by
  unfold ahead; rw [if_neg (by omega), Int.add_sub_cancel]
theorem ahead_succ (y : Int) (h : 1 ≤ y) : ahead (y + 1) = ahead y + 337 + febD y := by
  have h1 := ahead_val y (by omega)
  have h2 := ahead_val (y - 1) (by omega)
  rw [Int.sub_add_cancel] at h2
  have h3 := feb_cases y
  omega
theorem febD_period (e y : Int) : febD (400 * e + y) = febD y := by
  have h1 := feb_cases y
  have h2 := feb_cases (400 * e + y)
  omega
theorem mdays_vals (y : Int) : mdays y 1 = 31 ∧ mdays y 2 = febD y ∧ mdays y 3 = 31 ∧ mdays y 4 = 30 ∧ mdays y 5 = 31 ∧ mdays y 6 = 30 ∧ mdays y 7 = 31 ∧ mdays y 8 = 31 ∧ mdays y 9 = 30 ∧ mdays y 10 = 31 ∧ mdays y 11 = 30 ∧ mdays y 12 = 31 :=
  ⟨rfl, rfl, rfl, rfl, rfl, rfl, rfl, rfl, rfl, rfl, rfl, rfl⟩
set_option maxHeartbeats 1000000 in
theorem civ_valid (n : Int) (h0 : 0 ≤ n) : Valid (civ n).1 (civ n).2.1 (civ n).2.2 ∧ dayNum (civ n).1 (civ n).2.1 (civ n).2.2 = n := by
  obtain ⟨r0, r1, y0, y1, rl⟩ := civ_parts n h0
  have hM : civM n = (5 * civR n + 2) / 153 := rfl
  have hR : civR n = (n + 719468) % 146097 - (365 * civY n + civY n / 4 - civY n / 100) := rfl
  obtain ⟨E, hE⟩ : ∃ E, E = (n + 719468) / 146097 := ⟨_, rfl⟩
  have hE0 : 4 ≤ E := by omega
  have hc : civM n = 0 ∨ civM n = 1 ∨ civM n = 2 ∨ civM n = 3 ∨ civM n = 4 ∨ civM n = 5 ∨ civM n = 6 ∨ civM n = 7 ∨ civM n = 8 ∨ civM n = 9 ∨ civM n = 10 ∨ civM n = 11 := by omega
  have hD : n + 719468 = 146097 * E + civR n + 365 * civY n + civY n / 4 - civY n / 100 := by omega
  have hM2 : civM n * 153 ≤ 5 * civR n + 2 ∧ 5 * civR n + 2 < civM n * 153 + 153 := by omega
  clear hR
  unfold civ
  rw [← hE]
  by_cases h12 : 12 < civM n + 3
  · rw [if_pos h12]
    obtain ⟨Y, hY⟩ : ∃ Y, Y = E * 400 + civY n + 1 := ⟨_, rfl⟩
    have ha := ahead_val (Y - 1) (by omega)
    rw [Int.sub_add_cancel] at ha
    have ha0 := ha
    clear ha0
    have k1 : (Y - 1) / 4 = 100 * E + civY n / 4 := by omega
    have k2 : (Y - 1) / 100 = 4 * E + civY n / 100 := by omega
    have k3 : (Y - 1) / 400 = E := by omega
    rw [k1, k2, k3] at ha
    clear k1 k2 k3
    obtain ⟨b0, b1, b2, b3, b4, b5, b6, b7, b8, b9, b10, b11, b12⟩ := bef_vals Y
    obtain ⟨m1, m2, m3, m4, m5, m6, m7, m8, m9, m10, m11, m12⟩ := mdays_vals Y
    have hf : civR n = 365 → febD Y = 29 := fun e => by
      have h1 := rl e
      have h2 := febD_period E (civY n + 1)
      rw [hY, show E * 400 + civY n + 1 = 400 * E + (civY n + 1) by omega, h2]
      unfold febD; rw [if_pos h1]
    have hfb : 28 ≤ febD Y := by have := feb_cases Y; omega
    simp only [Valid, dayNum]
    rw [show E * 400 + civY n + 1 = Y from hY.symm]
    rcases hc with h | h | h | h | h | h | h | h | h | h | h | h
    all_goals first | (exfalso; omega) | skip
    all_goals
      rw [h]
      rw [h] at hM2
      clear h h12 hM hE rl
      generalize civY n / 4 = q4 at ha hD
      generalize civY n / 100 = q1 at ha hD
      simp only [Int.reduceAdd, Int.reduceSub, Int.reduceMul, Int.reduceToNat, Int.reduceDiv, Int.reduceLE, true_and, b0, b1, m1, m2]
      clear b0 b1 b2 b3 b4 b5 b6 b7 b8 b9 b10 b11 b12 m1 m2 m3 m4 m5 m6 m7 m8 m9 m10 m11 m12
      omega
  · rw [if_neg h12]
    obtain ⟨Y, hY⟩ : ∃ Y, Y = E * 400 + civY n := ⟨_, rfl⟩
    have ha := ahead_val Y (by omega)
    have k1 : Y / 4 = 100 * E + civY n / 4 := by omega
    have k2 : Y / 100 = 4 * E + civY n / 100 := by omega
    have k3 : Y / 400 = E := by omega
    rw [k1, k2, k3] at ha
    clear k1 k2 k3
    have hs := ahead_succ Y (by omega)
    obtain ⟨b0, b1, b2, b3, b4, b5, b6, b7, b8, b9, b10, b11, b12⟩ := bef_vals Y
    obtain ⟨m1, m2, m3, m4, m5, m6, m7, m8, m9, m10, m11, m12⟩ := mdays_vals Y
    simp only [Valid, dayNum]
    rw [show E * 400 + civY n = Y from hY.symm]
    rcases hc with h | h | h | h | h | h | h | h | h | h | h | h
    all_goals first | (exfalso; omega) | skip
    all_goals
      rw [h]
      rw [h] at hM2
      clear h h12 hM hE rl
      generalize civY n / 4 = q4 at ha hD
      generalize civY n / 100 = q1 at ha hD
      simp only [Int.reduceAdd, Int.reduceSub, Int.reduceMul, Int.reduceToNat, Int.reduceDiv, Int.reduceLE, true_and, b2, b3, b4, b5, b6, b7, b8, b9, b10, b11, m3, m4, m5, m6, m7, m8, m9, m10, m11, m12]
      clear b0 b1 b2 b3 b4 b5 b6 b7 b8 b9 b10 b11 b12 m1 m2 m3 m4 m5 m6 m7 m8 m9 m10 m11 m12
      omega
end Go.Proofs.YtfhdnppcookcoaaDoor
