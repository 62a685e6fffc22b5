/- The reference's ReadRfc and ReadDay say what the program's say. -/
import Derived.Test.YtfhdnppcookcoaaDoorDate31
import Derived.Test.YtfhdnppcookcoaaDoorDate33
namespace Go.Proofs.YtfhdnppcookcoaaDoor
open Go.RowKit Go.PlainAid
set_option linter.unusedVariables false
set_option linter.unusedSimpArgs false
theorem rfc_eq (s : ByteArray) : rReadRfcV s = readRfcV s := by
  by_cases h20 : s.size = 20
  rotate_left
  · rw [show readRfcV s = (0, 3) from if_neg h20]; exact if_neg h20
  have n1 := num_rel (s.extract 0 4) (by rw [ByteArray.size_extract]; omega) (by rw [ByteArray.size_extract]; omega)
  have n2 := num2 (s.extract 5 7) (by rw [ByteArray.size_extract]; omega)
  have n3 := num2 (s.extract 8 10) (by rw [ByteArray.size_extract]; omega)
  have n4 := num2 (s.extract 11 13) (by rw [ByteArray.size_extract]; omega)
  have n5 := num2 (s.extract 14 16) (by rw [ByteArray.size_extract]; omega)
  have n6 := num2 (s.extract 17 19) (by rw [ByteArray.size_extract]; omega)
  have hN : rRfcN s = (secV (rnumV (s.extract 0 4)) (rnumV (s.extract 5 7)) (rnumV (s.extract 8 10))).1 + 3600 * rnumV (s.extract 11 13) + 60 * rnumV (s.extract 14 16) + rnumV (s.extract 17 19) := rfl
  unfold rReadRfcV
  rw [if_pos h20]
  unfold rRfcEnd
  by_cases hA : rnumV (s.extract 5 7) ≤ 12 ∧ 0 ≤ rnumV (s.extract 11 13) ∧ 0 ≤ rnumV (s.extract 14 16) ∧ 0 ≤ rnumV (s.extract 17 19) ∧ (secV (rnumV (s.extract 0 4)) (rnumV (s.extract 5 7)) (rnumV (s.extract 8 10))).2 = true ∧ 0 ≤ rRfcN s ∧ rRfcN s ≤ 253402300799 ∧ ((rfcS (rRfcN s)).toList == s.toList) = true
  · rw [if_pos hA]
    have hs : rfcS (rRfcN s) = s := ba_ext' (beq_iff_eq.1 hA.2.2.2.2.2.2.2)
    have hb := rfc_back (rRfcN s) hA.2.2.2.2.2.1 hA.2.2.2.2.2.2.1
    rw [hs] at hb
    exact hb.symm
  · rw [if_neg hA]
    symm
    unfold readRfcV
    rw [if_pos h20]
    by_cases hc : bt s 13 = 58 ∧ bt s 16 = 58
    rotate_left
    · have hc3 : (clockV (s.extract 11 19)).2 = false := by
        unfold clockV
        rw [if_neg (fun x => hc (by rw [bt_ext s 11 19 2 (by omega) (by omega), bt_ext s 11 19 5 (by omega) (by omega)] at x; exact x.2))]
      exact if_neg (fun x => by rw [hc3] at x; exact absurd x.2.2.2.1 (by simp))
    have hk := clock_rel s 11 (by omega) hc.1 hc.2
    dsimp only at hk
    rw [show 11 + 2 = 13 from rfl, show 11 + 3 = 14 from rfl, show 11 + 5 = 16 from rfl, show 11 + 6 = 17 from rfl, show 11 + 8 = 19 from rfl] at hk
    generalize rnumV (s.extract 11 13) = h at *
    generalize rnumV (s.extract 14 16) = mi at *
    generalize rnumV (s.extract 17 19) = se at *
    generalize clockV (s.extract 11 19) = C at *
    generalize rnumV (s.extract 0 4) = y at *
    generalize rnumV (s.extract 5 7) = m at *
    generalize rnumV (s.extract 8 10) = d at *
    refine if_neg (fun x => ?_)
    obtain ⟨x1, x2, x3, x4, x5, x6, x7, x8, x9, x10⟩ := x
    rcases n1 with ⟨_, e1⟩ | ⟨r1, r1b, e1⟩
    · rw [e1] at x1; cases x1
    rcases n2 with ⟨_, e2⟩ | ⟨r2, r2b, e2⟩
    · rw [e2] at x2; cases x2
    rcases n3 with ⟨_, e3⟩ | ⟨r3, r3b, e3⟩
    · rw [e3] at x3; cases x3
    rw [e1] at x5 x9 x10
    rw [e2] at x6 x7 x9 x10
    rw [e3] at x8 x9 x10
    dsimp only at x5 x6 x7 x8 x9 x10
    split at hk
    · rename_i q
      rw [hk] at x10
      dsimp only at x10
      have hsec : secV y m d = (86400 * dayNum y m d, true) := if_pos ⟨r1, x6, x8, x9⟩
      have hr := dayNum_range y m d x5 r1b ⟨x6, x7, x8, x9⟩
      rw [hsec] at hN
      dsimp only at hN
      have hNe : rRfcN s = dayNum y m d * 86400 + (h * 3600 + mi * 60 + se) := by omega
      refine hA ⟨x7, q.1, q.2.2.1, q.2.2.2.2.1, by rw [hsec], by omega, by omega, ?_⟩
      rw [hNe]; exact x10
    · rw [hk] at x4; cases x4
theorem dash_join (l : List UInt8) (a b c : List UInt8) (h : dsplit l = [a, b, c]) : l = a ++ 45 :: (b ++ 45 :: c) := by
  rcases dash_cases l with h0 | ⟨a', r, rfl, h0⟩
  · rw [dsplit_none l h0] at h; simp at h
  · rw [dsplit_hit a' r h0] at h
    rcases dash_cases r with h1 | ⟨b', r', rfl, h1⟩
    · rw [dsplit_none r h1] at h; simp at h
    · rw [dsplit_hit b' r' h1] at h
      rcases dash_cases r' with h2 | ⟨c', r'', rfl, h2⟩
      · rw [dsplit_none r' h2] at h
        simp only [List.cons.injEq, and_true] at h
        rw [h.1, h.2.1, h.2.2]
      · rw [dsplit_hit c' r'' h2] at h
        simp only [List.cons.injEq] at h
        have := dsplit_length r''
        rw [h.2.2.2] at this
        simp at this
theorem monV_size (s : ByteArray) (h : monV s ≠ 0) : s.size = 3 ∧ (45 : UInt8) ∉ s.toList := by
  have hf : ∀ f k, 1 ≤ k → k + f ≤ 13 → monFrom (foldS s).toList f k ≠ 0 → ∃ j, 1 ≤ j ∧ j ≤ 12 ∧ (foldS s).toList = (foldS (monS j)).toList := by
    intro f
    induction f with
    | zero => intro k _ _ h; exact absurd rfl h
    | succ f ih =>
      intro k hk hk2 h
      simp only [monFrom] at h
      split at h
      · rename_i e; exact ⟨k, hk, by omega, beq_iff_eq.1 e⟩
      · exact ih (k + 1) (by omega) (by omega) h
  obtain ⟨j, j0, j1, e⟩ := hf 12 1 (by omega) (by omega) h
  have hsz : s.size = 3 := by
    have h1 := congrArg List.length e
    rw [tl_size, tl_size, foldS_size, foldS_size] at h1
    rw [h1]
    unfold monS
    rw [ByteArray.size_extract]
    show min (3 * j) 36 - (3 * j - 3) = 3
    omega
  refine ⟨hsz, fun hm => ?_⟩
  have h45 : (45 : UInt8) ∈ (foldS s).toList := by
    unfold foldS
    rw [nums_toList]
    obtain ⟨k, hk, he⟩ := List.getElem_of_mem hm
    have hk2 : k < s.size := by rw [← tl_size]; exact hk
    have hb : bt s k = 45 := by rw [bt_get s k hk, he]; rfl
    unfold foldZ
    rw [List.map_map]
    refine List.mem_map.2 ⟨k, List.mem_range.2 hk2, ?_⟩
    show UInt8.ofNat (foldN (bt s k)).toNat = 45
    rw [hb]; rfl
  rw [e] at h45
  have hall : (List.range 13).all (fun j => j == 0 || !((foldS (monS j)).toList.contains 45)) = true := by decide +kernel
  have := List.all_eq_true.1 hall j (List.mem_range.2 (by omega))
  rw [Bool.or_eq_true] at this
  rcases this with h0 | h0
  · rw [beq_iff_eq] at h0; omega
  · rw [Bool.not_eq_true'] at h0
    have : (foldS (monS j)).toList.contains 45 = true := List.contains_iff_mem.2 h45
    rw [h0] at this; cases this
theorem dnum_nodash (t : ByteArray) (h : (dnumV t).2 = true) : (45 : UInt8) ∉ t.toList ∧ 0 < t.size := by
  unfold dnumV at h
  by_cases hd : digitsB t t.size = true
  · rw [if_pos hd] at h
    have h0 : t.size ≠ 0 := by simpa using h
    refine ⟨fun hm => ?_, by omega⟩
    obtain ⟨k, hk, he⟩ := List.getElem_of_mem hm
    have hk2 : k < t.size := by rw [← tl_size]; exact hk
    have hb : bt t k = 45 := by rw [bt_get t k hk, he]; rfl
    have := digits_stop2 t k t.size hk2 (by rw [hb]; decide)
    rw [hd] at this; cases this
  · rw [if_neg hd] at h; cases h
end Go.Proofs.YtfhdnppcookcoaaDoor
