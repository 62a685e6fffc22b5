/- The walk of tree.Match. -/
import Derived.Test.YtlmelclfdafhbaaTree0
namespace Go.Proofs.Ytlmelclfdafhbaa
open Go.RowKit Go.PlainAid
set_option linter.unusedVariables false
set_option linter.unusedSimpArgs false
theorem boolInfo : (Try.prog.info? 4).map (fun i => (i.zero, i.size, i.bytes)) = some (some (.bool false), 1, 1) := by kernel_rfl
set_option maxHeartbeats 2000000 in
set_option maxRecDepth 100000 in
theorem match_any (p s : ByteArray) (w : World) (hp : p.size ≤ 1000) (hs : s.size ≤ 1000) : Calls Try.prog 8 #[.string p, .string s] w fun e w' => e = .returned (.bool (matchB p s)) ∧ Below w.heap.size w w' := by
  have hb1 := get_bt p
  have hb2 := get_bt s
  go_enter Try.func8, Try.ntmps8
  go_wp2_with (at_make; refine wpList_make_row _ rfl (.tmp 12) (.tmp 12) 36 rfl 4 (.bool false) 1 Try.underlying36 boolInfo rfl .i64 .i64 _ _ (s.size + 1) rfl rfl (by omega) (by omega) (by omega) (by omega) ?_; intro g w1 hg1 hg2 hblk hbel; have q1 := hblk.cellV 0 (by omega); have q2 := hblk.frozen 0)
  go_loopw [5, 18] (fun can i wr => ∃ (b i' : Nat), i' ≤ p.size ∧ i = .int .i64 i' ∧ can = .slice (some ⟨b, 0, none⟩) (s.size + 1) (s.size + 1) ∧ Blk wr b 4 (rowV (s.size + 1) (flagV (rowT p s i'))) ∧ w.heap.size ≤ b ∧ b < wr.heap.size ∧ Below w.heap.size w wr) (fun _ i _ => p.size - (intOf i).toNat)
  case atStart => exact ⟨g, 0, by omega, rfl, rfl, by rw [← flag_start]; exact hblk.setV 0 _, hg1, by simpa [World.setCell] using hg2, hbel.setCell hg1 _⟩
  case round =>
    obtain ⟨b, i, hi, rfl, rfl, hB, hb0, hb3, hW⟩ := hrel
    clear hg1 hg2 hblk hbel q1 q2
    by_cases hlt : i < p.size
    · go_wp2_with (at_make; refine wpList_make_row _ rfl (.tmp 23) (.tmp 23) 36 rfl 4 (.bool false) 1 Try.underlying36 boolInfo rfl .i64 .i64 _ _ (s.size + 1) rfl rfl (by omega) (by omega) (by omega) (by omega) ?_; intro g w1 hg1 hg2 hblk hbel)
      have hB1 : Blk w1 b 4 (rowV (s.size + 1) (flagV (rowT p s i))) := hB.below hbel hb3
      have hne : b ≠ g := by omega
      have hW1 : Below w.heap.size w w1 := nextB hW hbel
      have hb4 : b < w1.heap.size := by omega
      have hg3 : w.heap.size ≤ g := by omega
      rw [until_none (s.size + 1) (rowT p s (i + 1))] at hblk
      clear hB hbel hb3 hW hg1
      obtain ⟨wo, rfl⟩ : ∃ wo : World, wo = wr := ⟨_, rfl⟩
      go_loopw [30] (fun j wr => ∃ k : Nat, k ≤ s.size + 1 ∧ j = .int .i64 k ∧ Blk wr g 4 (rowV (s.size + 1) (untilV (rowT p s (i + 1)) k)) ∧ Blk wr b 4 (rowV (s.size + 1) (flagV (rowT p s i))) ∧ b < wr.heap.size ∧ g < wr.heap.size ∧ Below w.heap.size w wr) (fun j _ => s.size + 1 - (intOf j).toNat)
      case atStart => exact ⟨0, by omega, rfl, hblk, hB1, hb4, hg2, hW1⟩
      case round =>
        obtain ⟨k, hk, rfl, hG, hB, hb5, hg5, hW⟩ := hrel
        clear hblk hB1 hb4 hg2 hW1
        by_cases hkl : k < s.size + 1
        · have hgk : ∀ k', k' < k → wr.cell? ⟨g, k', none⟩ = some (.bool (rowT p s (i + 1) k')) := fun k' hk' => by
            have := hG.cellV k' (by omega)
            unfold untilV at this
            simpa [hk'] using this
          have HGK := Lib.hid hgk
          have HQ3 : Hid (∀ j, j < s.size + 1 → wr.cell? ⟨b, j, none⟩ = some (.bool (rowT p s i j))) := fun j hj => hB.cellV j hj
          clear hgk
          have q1 := hG.frozen k
          have q2 := hG.cellV k hkl
          cases h42 : (bt p i == 42) with
          | true =>
            have q3 := HQ3.out k hkl
            cases hf : rowT p s i k with
            | true =>
              rw [hf] at q3
              by_cases h0 : k < 1
              · have HV : Hid (rowT p s (i + 1) k = true) := by
                  obtain rfl : k = 0 := by omega
                  show _ = _
                  simp [rowT, stepT, h42, hf]
                go_wp2
                go_roundw
                case rel => exact ⟨k + 1, by omega, by go_num, by rw [← until_succ (s.size + 1) (rowT p s (i + 1)) k true (by rw [HV.out])]; exact hG.setV k _, hB.far (p := ⟨g, k, none⟩) hne _, by simpa [World.setCell] using hb5, by simpa [World.setCell] using hg5, hW.setCell (p := ⟨g, k, none⟩) hg3 _⟩
                case measure => simp [intOf]; omega
              · have HV : Hid (rowT p s (i + 1) k = true) := by
                  obtain ⟨k', rfl⟩ : ∃ k', k = k' + 1 := ⟨k - 1, by omega⟩
                  show _ = _
                  try simp only [Nat.add_sub_cancel] at *
                  simp_all [rowT, stepT]
                go_wp2
                go_roundw
                case rel => exact ⟨k + 1, by omega, by go_num, by rw [← until_succ (s.size + 1) (rowT p s (i + 1)) k true (by rw [HV.out])]; exact hG.setV k _, hB.far (p := ⟨g, k, none⟩) hne _, by simpa [World.setCell] using hb5, by simpa [World.setCell] using hg5, hW.setCell (p := ⟨g, k, none⟩) hg3 _⟩
                case measure => simp [intOf]; omega
            | false =>
              rw [hf] at q3
              by_cases h0 : k < 1
              · have HV : Hid (rowT p s (i + 1) k = false) := by
                  obtain rfl : k = 0 := by omega
                  show _ = _
                  simp [rowT, stepT, h42, hf]
                go_wp2
                go_roundw
                case rel => exact ⟨k + 1, by omega, by go_num, by rw [← until_succ (s.size + 1) (rowT p s (i + 1)) k false (by rw [HV.out])]; exact hG.setV k _, hB.far (p := ⟨g, k, none⟩) hne _, by simpa [World.setCell] using hb5, by simpa [World.setCell] using hg5, hW.setCell (p := ⟨g, k, none⟩) hg3 _⟩
                case measure => simp [intOf]; omega
              · have q4 := HGK.out (k - 1) (by omega)
                cases hg : rowT p s (i + 1) (k - 1) with
                | true =>
                  rw [hg] at q4
                  have HV : Hid (rowT p s (i + 1) k = true) := by
                    obtain ⟨k', rfl⟩ : ∃ k', k = k' + 1 := ⟨k - 1, by omega⟩
                    show _ = _
                    try simp only [Nat.add_sub_cancel] at *
                    simp_all [rowT, stepT]
                  go_wp2
                  go_roundw
                  case rel => exact ⟨k + 1, by omega, by go_num, by rw [← until_succ (s.size + 1) (rowT p s (i + 1)) k true (by rw [HV.out])]; exact hG.setV k _, hB.far (p := ⟨g, k, none⟩) hne _, by simpa [World.setCell] using hb5, by simpa [World.setCell] using hg5, hW.setCell (p := ⟨g, k, none⟩) hg3 _⟩
                  case measure => simp [intOf]; omega
                | false =>
                  rw [hg] at q4
                  have HV : Hid (rowT p s (i + 1) k = false) := by
                    obtain ⟨k', rfl⟩ : ∃ k', k = k' + 1 := ⟨k - 1, by omega⟩
                    show _ = _
                    try simp only [Nat.add_sub_cancel] at *
                    simp_all [rowT, stepT]
                  go_wp2
                  go_roundw
                  case rel => exact ⟨k + 1, by omega, by go_num, by rw [← until_succ (s.size + 1) (rowT p s (i + 1)) k false (by rw [HV.out])]; exact hG.setV k _, hB.far (p := ⟨g, k, none⟩) hne _, by simpa [World.setCell] using hb5, by simpa [World.setCell] using hg5, hW.setCell (p := ⟨g, k, none⟩) hg3 _⟩
                  case measure => simp [intOf]; omega
          | false =>
            cases h37 : (bt p i == 37) with
            | true =>
              have q3 := HQ3.out k hkl
              cases hf : rowT p s i k with
              | true =>
                rw [hf] at q3
                by_cases h0 : k < 1
                · have HV : Hid (rowT p s (i + 1) k = true) := by
                    obtain rfl : k = 0 := by omega
                    show _ = _
                    simp [rowT, stepT, h42, h37, hf]
                  go_wp2
                  go_roundw
                  case rel => exact ⟨k + 1, by omega, by go_num, by rw [← until_succ (s.size + 1) (rowT p s (i + 1)) k true (by rw [HV.out])]; exact hG.setV k _, hB.far (p := ⟨g, k, none⟩) hne _, by simpa [World.setCell] using hb5, by simpa [World.setCell] using hg5, hW.setCell (p := ⟨g, k, none⟩) hg3 _⟩
                  case measure => simp [intOf]; omega
                · have HV : Hid (rowT p s (i + 1) k = true) := by
                    obtain ⟨k', rfl⟩ : ∃ k', k = k' + 1 := ⟨k - 1, by omega⟩
                    show _ = _
                    try simp only [Nat.add_sub_cancel] at *
                    simp_all [rowT, stepT]
                  go_wp2
                  go_roundw
                  case rel => exact ⟨k + 1, by omega, by go_num, by rw [← until_succ (s.size + 1) (rowT p s (i + 1)) k true (by rw [HV.out])]; exact hG.setV k _, hB.far (p := ⟨g, k, none⟩) hne _, by simpa [World.setCell] using hb5, by simpa [World.setCell] using hg5, hW.setCell (p := ⟨g, k, none⟩) hg3 _⟩
                  case measure => simp [intOf]; omega
              | false =>
                rw [hf] at q3
                by_cases h0 : k < 1
                · have HV : Hid (rowT p s (i + 1) k = false) := by
                    obtain rfl : k = 0 := by omega
                    show _ = _
                    simp [rowT, stepT, h42, h37, hf]
                  go_wp2
                  go_roundw
                  case rel => exact ⟨k + 1, by omega, by go_num, by rw [← until_succ (s.size + 1) (rowT p s (i + 1)) k false (by rw [HV.out])]; exact hG.setV k _, hB.far (p := ⟨g, k, none⟩) hne _, by simpa [World.setCell] using hb5, by simpa [World.setCell] using hg5, hW.setCell (p := ⟨g, k, none⟩) hg3 _⟩
                  case measure => simp [intOf]; omega
                · have q4 := HGK.out (k - 1) (by omega)
                  cases hg : rowT p s (i + 1) (k - 1) with
                  | true =>
                    rw [hg] at q4
                    cases h47 : (bt s (k - 1) == 47) with
                    | true =>
                      have h47' : (bt s (k - 1) != 47) = false := by rw [bne, h47]; rfl
                      have HV : Hid (rowT p s (i + 1) k = false) := by
                        obtain ⟨k', rfl⟩ : ∃ k', k = k' + 1 := ⟨k - 1, by omega⟩
                        show _ = _
                        try simp only [Nat.add_sub_cancel] at *
                        simp_all [rowT, stepT]
                      go_wp2
                      go_roundw
                      case rel => exact ⟨k + 1, by omega, by go_num, by rw [← until_succ (s.size + 1) (rowT p s (i + 1)) k false (by rw [HV.out])]; exact hG.setV k _, hB.far (p := ⟨g, k, none⟩) hne _, by simpa [World.setCell] using hb5, by simpa [World.setCell] using hg5, hW.setCell (p := ⟨g, k, none⟩) hg3 _⟩
                      case measure => simp [intOf]; omega
                    | false =>
                      have h47' : (bt s (k - 1) != 47) = true := by rw [bne, h47]; rfl
                      have HV : Hid (rowT p s (i + 1) k = true) := by
                        obtain ⟨k', rfl⟩ : ∃ k', k = k' + 1 := ⟨k - 1, by omega⟩
                        show _ = _
                        try simp only [Nat.add_sub_cancel] at *
                        simp_all [rowT, stepT]
                      go_wp2
                      go_roundw
                      case rel => exact ⟨k + 1, by omega, by go_num, by rw [← until_succ (s.size + 1) (rowT p s (i + 1)) k true (by rw [HV.out])]; exact hG.setV k _, hB.far (p := ⟨g, k, none⟩) hne _, by simpa [World.setCell] using hb5, by simpa [World.setCell] using hg5, hW.setCell (p := ⟨g, k, none⟩) hg3 _⟩
                      case measure => simp [intOf]; omega
                  | false =>
                    rw [hg] at q4
                    have HV : Hid (rowT p s (i + 1) k = false) := by
                      obtain ⟨k', rfl⟩ : ∃ k', k = k' + 1 := ⟨k - 1, by omega⟩
                      show _ = _
                      try simp only [Nat.add_sub_cancel] at *
                      simp_all [rowT, stepT]
                    go_wp2
                    go_roundw
                    case rel => exact ⟨k + 1, by omega, by go_num, by rw [← until_succ (s.size + 1) (rowT p s (i + 1)) k false (by rw [HV.out])]; exact hG.setV k _, hB.far (p := ⟨g, k, none⟩) hne _, by simpa [World.setCell] using hb5, by simpa [World.setCell] using hg5, hW.setCell (p := ⟨g, k, none⟩) hg3 _⟩
                    case measure => simp [intOf]; omega
            | false =>
              by_cases h0 : k < 1
              · have HV : Hid (rowT p s (i + 1) k = false) := by
                  obtain rfl : k = 0 := by omega
                  show _ = _
                  simp [rowT, stepT, h42, h37]
                go_wp2
                go_roundw
                case rel => exact ⟨k + 1, by omega, by go_num, by rw [← until_succ (s.size + 1) (rowT p s (i + 1)) k false (by rw [HV.out])]; exact hG.setV k _, hB.far (p := ⟨g, k, none⟩) hne _, by simpa [World.setCell] using hb5, by simpa [World.setCell] using hg5, hW.setCell (p := ⟨g, k, none⟩) hg3 _⟩
                case measure => simp [intOf]; omega
              · have q3 := HQ3.out (k - 1) (by omega)
                cases hf : rowT p s i (k - 1) with
                | true =>
                  rw [hf] at q3
                  cases hc : (bt s (k - 1) == bt p i) with
                  | true =>
                    have HV : Hid (rowT p s (i + 1) k = true) := by
                      obtain ⟨k', rfl⟩ : ∃ k', k = k' + 1 := ⟨k - 1, by omega⟩
                      show _ = _
                      try simp only [Nat.add_sub_cancel] at *
                      simp_all [rowT, stepT]
                    go_wp2
                    go_roundw
                    case rel => exact ⟨k + 1, by omega, by go_num, by rw [← until_succ (s.size + 1) (rowT p s (i + 1)) k true (by rw [HV.out])]; exact hG.setV k _, hB.far (p := ⟨g, k, none⟩) hne _, by simpa [World.setCell] using hb5, by simpa [World.setCell] using hg5, hW.setCell (p := ⟨g, k, none⟩) hg3 _⟩
                    case measure => simp [intOf]; omega
                  | false =>
                    have HV : Hid (rowT p s (i + 1) k = false) := by
                      obtain ⟨k', rfl⟩ : ∃ k', k = k' + 1 := ⟨k - 1, by omega⟩
                      show _ = _
                      try simp only [Nat.add_sub_cancel] at *
                      simp_all [rowT, stepT]
                    go_wp2
                    go_roundw
                    case rel => exact ⟨k + 1, by omega, by go_num, by rw [← until_succ (s.size + 1) (rowT p s (i + 1)) k false (by rw [HV.out])]; exact hG.setV k _, hB.far (p := ⟨g, k, none⟩) hne _, by simpa [World.setCell] using hb5, by simpa [World.setCell] using hg5, hW.setCell (p := ⟨g, k, none⟩) hg3 _⟩
                    case measure => simp [intOf]; omega
                | false =>
                  rw [hf] at q3
                  have HV : Hid (rowT p s (i + 1) k = false) := by
                    obtain ⟨k', rfl⟩ : ∃ k', k = k' + 1 := ⟨k - 1, by omega⟩
                    show _ = _
                    try simp only [Nat.add_sub_cancel] at *
                    simp_all [rowT, stepT]
                  go_wp2
                  go_roundw
                  case rel => exact ⟨k + 1, by omega, by go_num, by rw [← until_succ (s.size + 1) (rowT p s (i + 1)) k false (by rw [HV.out])]; exact hG.setV k _, hB.far (p := ⟨g, k, none⟩) hne _, by simpa [World.setCell] using hb5, by simpa [World.setCell] using hg5, hW.setCell (p := ⟨g, k, none⟩) hg3 _⟩
                  case measure => simp [intOf]; omega
        · obtain rfl : k = s.size + 1 := by omega
          rw [until_all] at hG
          go_wp2
          go_roundw
          case rel => exact ⟨g, i + 1, by omega, by go_num, rfl, hG, hg3, hg5, hW⟩
          case measure => simp [intOf]; omega
    · obtain rfl : i = p.size := by omega
      have q1 := hB.cellV s.size (by omega)
      go_wp2
      go_ret
      exact ⟨rfl, hW⟩
end Go.Proofs.Ytlmelclfdafhbaa
