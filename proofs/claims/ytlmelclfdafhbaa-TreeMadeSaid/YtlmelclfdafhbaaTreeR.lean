/- The walk of the reference's Match. -/
import Derived.Test.YtlmelclfdafhbaaTreeM
namespace Go.Proofs.Ytlmelclfdafhbaa
open Go.RowKit Go.PlainAid
set_option linter.unusedVariables false
set_option linter.unusedSimpArgs false
theorem rowR_succ (p s : ByteArray) (k j : Nat) : rowR p s (k + 1) (j + 1) = if (bt p j == 42) = true then rowR p s k j || rowR p s k (j + 1) || rowR p s (k + 1) j else if (bt p j == 37) = true then (rowR p s k j || rowR p s k (j + 1)) && (bt s k != 47) || rowR p s (k + 1) j else rowR p s k j && (bt p j == bt s k) := rfl
set_option maxHeartbeats 4000000 in
set_option maxRecDepth 100000 in
theorem rmatch_any (p s : ByteArray) (w : World) (hp : p.size ≤ 1000) (hs : s.size ≤ 1000) : Calls Try.prog 9 #[.string p, .string s] w fun e w' => e = .returned (.bool (matchB p s)) ∧ Below w.heap.size w w' := by
  have hb1 := get_bt p
  have hb2 := get_bt s
  have hfin := rowR_eq p s s.size p.size
  have HFIN := Lib.hid hfin
  clear hfin
  go_enter Try.func9, Try.ntmps9
  go_wp2_with (at_make; refine wpList_make_row _ rfl (.tmp 12) (.tmp 12) 36 rfl 4 (.bool false) 1 Try.underlying36 boolInfo rfl .i64 .i64 _ _ (p.size + 1) rfl rfl (by omega) (by omega) (by omega) (by omega) ?_; intro g w1 hg1 hg2 hblk hbel; have q1 := hblk.cellV 0 (by omega); have q2 := hblk.frozen 0)
  go_loopw [6] (fun i wr => ∃ i' : Nat, i' ≤ p.size ∧ i = .int .i64 i' ∧ Blk wr g 4 (rowV (p.size + 1) (fun j => .bool (decide (j ≤ i')))) ∧ Hid (∀ j, j < i' → (bt p j == 42 || bt p j == 37) = true) ∧ g < wr.heap.size ∧ Below w.heap.size w wr) (fun i _ => p.size - (intOf i).toNat)
  case atStart => exact ⟨0, by omega, rfl, by rw [← start_zero]; exact hblk.setV 0 _, fun j hj => absurd hj (by omega), by simpa [World.setCell] using hg2, hbel.setCell hg1 _⟩
  case round =>
    obtain ⟨i, hi, rfl, hB, hall, hb3, hW⟩ := hrel
    clear hg2 hblk hbel q1 q2
    have hgo : (i < p.size ∧ (bt p i == 42 || bt p i == 37) = true) ∨ (i < p.size ∧ (bt p i == 42 || bt p i == 37) = false) ∨ i = p.size := by
      by_cases h : i < p.size
      · cases h' : (bt p i == 42 || bt p i == 37)
        · exact Or.inr (Or.inl ⟨h, rfl⟩)
        · exact Or.inl ⟨h, rfl⟩
      · exact Or.inr (Or.inr (by omega))
    rcases hgo with ⟨hlt, hsp⟩ | hstop
    · have q1 := hB.frozen (i + 1)
      have q2 := hB.cellV (i + 1) (by omega)
      have n1 : Hid (∀ j, j < i + 1 → (bt p j == 42 || bt p j == 37) = true) := fun j hj => by
        by_cases e : j = i
        · rw [e]; exact hsp
        · exact hall.out j (by omega)
      cases h42 : (bt p i == 42) with
      | true =>
        have hb42 : bt p i = 42 := by simpa using h42
        clear hsp
        go_wp2
        go_roundw
        case rel => exact ⟨i + 1, by omega, by go_num, by rw [← start_succ]; exact hB.setV (i + 1) _, n1, by simpa [World.setCell] using hb3, hW.setCell (p := ⟨g, i + 1, none⟩) hg1 _⟩
        case measure => simp [intOf]; omega
      | false =>
        have h37 : (bt p i == 37) = true := by rw [h42] at hsp; simpa using hsp
        clear hsp
        go_wp2
        go_roundw
        case rel => exact ⟨i + 1, by omega, by go_num, by rw [← start_succ]; exact hB.setV (i + 1) _, n1, by simpa [World.setCell] using hb3, hW.setCell (p := ⟨g, i + 1, none⟩) hg1 _⟩
        case measure => simp [intOf]; omega
    · rw [start_end p i hi hall.out (by rcases hstop with ⟨_, h⟩ | h; exact Or.inr h; exact Or.inl h)] at hB
      clear hall
      rcases hstop with ⟨hlt, hsp⟩ | rfl
      all_goals try
        have h42 : (bt p i == 42) = false := by
          cases h : (bt p i == 42)
          · rfl
          · rw [h] at hsp; simp at hsp
        have h37 : (bt p i == 37) = false := by rw [h42] at hsp; simpa using hsp
        clear hsp
      all_goals
        go_wp2
        obtain ⟨wo, rfl⟩ : ∃ wo : World, wo = wr := ⟨_, rfl⟩
        go_loopw [5, 7] (fun may k wr => ∃ (b k' : Nat), k' ≤ s.size ∧ k = .int .i64 k' ∧ may = .slice (some ⟨b, 0, none⟩) (p.size + 1) (p.size + 1) ∧ Blk wr b 4 (rowV (p.size + 1) (flagV (rowR p s k'))) ∧ w.heap.size ≤ b ∧ b < wr.heap.size ∧ Below w.heap.size w wr) (fun _ k _ => s.size - (intOf k).toNat)
        case atStart => exact ⟨g, 0, by omega, rfl, rfl, hB, hg1, hb3, hW⟩
        case round =>
          obtain ⟨b, k, hk, rfl, rfl, hB, hb0, hb3, hW⟩ := hrel
          by_cases hlt' : k < s.size
          · go_wp2_with (at_make; refine wpList_make_row _ rfl (.tmp 46) (.tmp 46) 36 rfl 4 (.bool false) 1 Try.underlying36 boolInfo rfl .i64 .i64 _ _ (p.size + 1) rfl rfl (by omega) (by omega) (by omega) (by omega) ?_; intro g w1 hg1 hg2 hblk hbel)
            have hB1 : Blk w1 b 4 (rowV (p.size + 1) (flagV (rowR p s k))) := hB.below hbel hb3
            have hne : b ≠ g := by omega
            have hW1 : Below w.heap.size w w1 := nextB hW hbel
            have hb4 : b < w1.heap.size := by omega
            have hg3 : w.heap.size ≤ g := by omega
            rw [until_first (p.size + 1) (rowR p s (k + 1)) rfl] at hblk
            clear hB hbel hb3 hW hg1
            obtain ⟨wo', rfl⟩ : ∃ wo' : World, wo' = wr := ⟨_, rfl⟩
            go_loopw [9] (fun i wr => ∃ j : Nat, j ≤ p.size ∧ i = .int .i64 j ∧ Blk wr g 4 (rowV (p.size + 1) (untilV (rowR p s (k + 1)) (j + 1))) ∧ Blk wr b 4 (rowV (p.size + 1) (flagV (rowR p s k))) ∧ b < wr.heap.size ∧ g < wr.heap.size ∧ Below w.heap.size w wr) (fun i _ => p.size - (intOf i).toNat)
            case atStart => exact ⟨0, by omega, rfl, hblk, hB1, hb4, hg2, hW1⟩
            case round =>
              obtain ⟨j, hj, rfl, hG, hB, hb5, hg5, hW⟩ := hrel
              clear hblk hB1 hb4 hg2 hW1
              by_cases hjl : j < p.size
              · have hgk : ∀ j', j' < j + 1 → wr.cell? ⟨g, j', none⟩ = some (.bool (rowR p s (k + 1) j')) := fun j' hj' => by
                  have := hG.cellV j' (by omega)
                  unfold untilV at this
                  simpa [hj'] using this
                have HGK := Lib.hid hgk
                have HQ3 : Hid (∀ t, t < p.size + 1 → wr.cell? ⟨b, t, none⟩ = some (.bool (rowR p s k t))) := fun t ht => hB.cellV t ht
                clear hgk
                have q1 := hG.frozen (j + 1)
                have q2 := hG.cellV (j + 1) (by omega)
                cases h42 : (bt p j == 42) with
                | true =>
                  have q3 := HQ3.out j (by omega)
                  cases hf : rowR p s k j with
                  | true =>
                    rw [hf] at q3
                    have HV : Hid (rowR p s (k + 1) (j + 1) = true) := by
                      show rowR p s (k + 1) (j + 1) = _
                      rw [rowR_succ, h42]
                      simp_all
                    go_wp2
                    go_roundw
                    case rel => exact ⟨j + 1, by omega, by go_num, by rw [← until_succ (p.size + 1) (rowR p s (k + 1)) (j + 1) true (by rw [HV.out])]; exact hG.setV (j + 1) _, hB.far (p := ⟨g, j + 1, none⟩) hne _, by simpa [World.setCell] using hb5, by simpa [World.setCell] using hg5, hW.setCell (p := ⟨g, j + 1, none⟩) hg3 _⟩
                    case measure => simp [intOf]; omega
                  | false =>
                    rw [hf] at q3
                    have q4 := HQ3.out (j + 1) (by omega)
                    cases hf' : rowR p s k (j + 1) with
                    | true =>
                      rw [hf'] at q4
                      have HV : Hid (rowR p s (k + 1) (j + 1) = true) := by
                        show rowR p s (k + 1) (j + 1) = _
                        rw [rowR_succ, h42]
                        simp_all
                      go_wp2
                      go_roundw
                      case rel => exact ⟨j + 1, by omega, by go_num, by rw [← until_succ (p.size + 1) (rowR p s (k + 1)) (j + 1) true (by rw [HV.out])]; exact hG.setV (j + 1) _, hB.far (p := ⟨g, j + 1, none⟩) hne _, by simpa [World.setCell] using hb5, by simpa [World.setCell] using hg5, hW.setCell (p := ⟨g, j + 1, none⟩) hg3 _⟩
                      case measure => simp [intOf]; omega
                    | false =>
                      rw [hf'] at q4
                      have q5 := HGK.out j (by omega)
                      cases hg : rowR p s (k + 1) j with
                      | true =>
                        rw [hg] at q5
                        have HV : Hid (rowR p s (k + 1) (j + 1) = true) := by
                          show rowR p s (k + 1) (j + 1) = _
                          rw [rowR_succ, h42]
                          simp_all
                        go_wp2
                        go_roundw
                        case rel => exact ⟨j + 1, by omega, by go_num, by rw [← until_succ (p.size + 1) (rowR p s (k + 1)) (j + 1) true (by rw [HV.out])]; exact hG.setV (j + 1) _, hB.far (p := ⟨g, j + 1, none⟩) hne _, by simpa [World.setCell] using hb5, by simpa [World.setCell] using hg5, hW.setCell (p := ⟨g, j + 1, none⟩) hg3 _⟩
                        case measure => simp [intOf]; omega
                      | false =>
                        rw [hg] at q5
                        have HV : Hid (rowR p s (k + 1) (j + 1) = false) := by
                          show rowR p s (k + 1) (j + 1) = _
                          rw [rowR_succ, h42]
                          simp_all
                        go_wp2
                        go_roundw
                        case rel => exact ⟨j + 1, by omega, by go_num, by rw [← until_succ (p.size + 1) (rowR p s (k + 1)) (j + 1) false (by rw [HV.out])]; exact hG.setV (j + 1) _, hB.far (p := ⟨g, j + 1, none⟩) hne _, by simpa [World.setCell] using hb5, by simpa [World.setCell] using hg5, hW.setCell (p := ⟨g, j + 1, none⟩) hg3 _⟩
                        case measure => simp [intOf]; omega
                | false =>
                  cases h37 : (bt p j == 37) with
                  | true =>
                    have q3 := HQ3.out j (by omega)
                    cases hf : rowR p s k j with
                    | true =>
                      rw [hf] at q3
                      cases h47 : (bt s k != 47) with
                      | true =>
                        have HV : Hid (rowR p s (k + 1) (j + 1) = true) := by
                          show rowR p s (k + 1) (j + 1) = _
                          rw [rowR_succ, h42, h37]
                          simp_all
                        go_wp2
                        go_roundw
                        case rel => exact ⟨j + 1, by omega, by go_num, by rw [← until_succ (p.size + 1) (rowR p s (k + 1)) (j + 1) true (by rw [HV.out])]; exact hG.setV (j + 1) _, hB.far (p := ⟨g, j + 1, none⟩) hne _, by simpa [World.setCell] using hb5, by simpa [World.setCell] using hg5, hW.setCell (p := ⟨g, j + 1, none⟩) hg3 _⟩
                        case measure => simp [intOf]; omega
                      | false =>
                        have q5 := HGK.out j (by omega)
                        cases hg : rowR p s (k + 1) j with
                        | true =>
                          rw [hg] at q5
                          have HV : Hid (rowR p s (k + 1) (j + 1) = true) := by
                            show rowR p s (k + 1) (j + 1) = _
                            rw [rowR_succ, h42, h37]
                            simp_all
                          go_wp2
                          go_roundw
                          case rel => exact ⟨j + 1, by omega, by go_num, by rw [← until_succ (p.size + 1) (rowR p s (k + 1)) (j + 1) true (by rw [HV.out])]; exact hG.setV (j + 1) _, hB.far (p := ⟨g, j + 1, none⟩) hne _, by simpa [World.setCell] using hb5, by simpa [World.setCell] using hg5, hW.setCell (p := ⟨g, j + 1, none⟩) hg3 _⟩
                          case measure => simp [intOf]; omega
                        | false =>
                          rw [hg] at q5
                          have HV : Hid (rowR p s (k + 1) (j + 1) = false) := by
                            show rowR p s (k + 1) (j + 1) = _
                            rw [rowR_succ, h42, h37]
                            simp_all
                          go_wp2
                          go_roundw
                          case rel => exact ⟨j + 1, by omega, by go_num, by rw [← until_succ (p.size + 1) (rowR p s (k + 1)) (j + 1) false (by rw [HV.out])]; exact hG.setV (j + 1) _, hB.far (p := ⟨g, j + 1, none⟩) hne _, by simpa [World.setCell] using hb5, by simpa [World.setCell] using hg5, hW.setCell (p := ⟨g, j + 1, none⟩) hg3 _⟩
                          case measure => simp [intOf]; omega
                    | false =>
                      rw [hf] at q3
                      have q4 := HQ3.out (j + 1) (by omega)
                      cases hf' : rowR p s k (j + 1) with
                      | true =>
                        rw [hf'] at q4
                        cases h47 : (bt s k != 47) with
                        | true =>
                          have HV : Hid (rowR p s (k + 1) (j + 1) = true) := by
                            show rowR p s (k + 1) (j + 1) = _
                            rw [rowR_succ, h42, h37]
                            simp_all
                          go_wp2
                          go_roundw
                          case rel => exact ⟨j + 1, by omega, by go_num, by rw [← until_succ (p.size + 1) (rowR p s (k + 1)) (j + 1) true (by rw [HV.out])]; exact hG.setV (j + 1) _, hB.far (p := ⟨g, j + 1, none⟩) hne _, by simpa [World.setCell] using hb5, by simpa [World.setCell] using hg5, hW.setCell (p := ⟨g, j + 1, none⟩) hg3 _⟩
                          case measure => simp [intOf]; omega
                        | false =>
                          have q5 := HGK.out j (by omega)
                          cases hg : rowR p s (k + 1) j with
                          | true =>
                            rw [hg] at q5
                            have HV : Hid (rowR p s (k + 1) (j + 1) = true) := by
                              show rowR p s (k + 1) (j + 1) = _
                              rw [rowR_succ, h42, h37]
                              simp_all
                            go_wp2
                            go_roundw
                            case rel => exact ⟨j + 1, by omega, by go_num, by rw [← until_succ (p.size + 1) (rowR p s (k + 1)) (j + 1) true (by rw [HV.out])]; exact hG.setV (j + 1) _, hB.far (p := ⟨g, j + 1, none⟩) hne _, by simpa [World.setCell] using hb5, by simpa [World.setCell] using hg5, hW.setCell (p := ⟨g, j + 1, none⟩) hg3 _⟩
                            case measure => simp [intOf]; omega
                          | false =>
                            rw [hg] at q5
                            have HV : Hid (rowR p s (k + 1) (j + 1) = false) := by
                              show rowR p s (k + 1) (j + 1) = _
                              rw [rowR_succ, h42, h37]
                              simp_all
                            go_wp2
                            go_roundw
                            case rel => exact ⟨j + 1, by omega, by go_num, by rw [← until_succ (p.size + 1) (rowR p s (k + 1)) (j + 1) false (by rw [HV.out])]; exact hG.setV (j + 1) _, hB.far (p := ⟨g, j + 1, none⟩) hne _, by simpa [World.setCell] using hb5, by simpa [World.setCell] using hg5, hW.setCell (p := ⟨g, j + 1, none⟩) hg3 _⟩
                            case measure => simp [intOf]; omega
                      | false =>
                        rw [hf'] at q4
                        have q5 := HGK.out j (by omega)
                        cases hg : rowR p s (k + 1) j with
                        | true =>
                          rw [hg] at q5
                          have HV : Hid (rowR p s (k + 1) (j + 1) = true) := by
                            show rowR p s (k + 1) (j + 1) = _
                            rw [rowR_succ, h42, h37]
                            simp_all
                          go_wp2
                          go_roundw
                          case rel => exact ⟨j + 1, by omega, by go_num, by rw [← until_succ (p.size + 1) (rowR p s (k + 1)) (j + 1) true (by rw [HV.out])]; exact hG.setV (j + 1) _, hB.far (p := ⟨g, j + 1, none⟩) hne _, by simpa [World.setCell] using hb5, by simpa [World.setCell] using hg5, hW.setCell (p := ⟨g, j + 1, none⟩) hg3 _⟩
                          case measure => simp [intOf]; omega
                        | false =>
                          rw [hg] at q5
                          have HV : Hid (rowR p s (k + 1) (j + 1) = false) := by
                            show rowR p s (k + 1) (j + 1) = _
                            rw [rowR_succ, h42, h37]
                            simp_all
                          go_wp2
                          go_roundw
                          case rel => exact ⟨j + 1, by omega, by go_num, by rw [← until_succ (p.size + 1) (rowR p s (k + 1)) (j + 1) false (by rw [HV.out])]; exact hG.setV (j + 1) _, hB.far (p := ⟨g, j + 1, none⟩) hne _, by simpa [World.setCell] using hb5, by simpa [World.setCell] using hg5, hW.setCell (p := ⟨g, j + 1, none⟩) hg3 _⟩
                          case measure => simp [intOf]; omega
                  | false =>
                    have q3 := HQ3.out j (by omega)
                    cases hf : rowR p s k j with
                    | true =>
                      rw [hf] at q3
                      cases hc : (bt p j == bt s k) with
                      | true =>
                        have HV : Hid (rowR p s (k + 1) (j + 1) = true) := by
                          show rowR p s (k + 1) (j + 1) = _
                          rw [rowR_succ, h42, h37]
                          simp_all
                        go_wp2
                        go_region
                        all_goals
                          go_wp2
                          go_roundw
                          case rel => exact ⟨j + 1, by omega, by go_num, by rw [← until_succ (p.size + 1) (rowR p s (k + 1)) (j + 1) true (by rw [HV.out])]; exact hG.setV (j + 1) _, hB.far (p := ⟨g, j + 1, none⟩) hne _, by simpa [World.setCell] using hb5, by simpa [World.setCell] using hg5, (hW.setCell (p := ⟨g, j + 1, none⟩) hg3 _).drew⟩
                          case measure => simp [intOf]; omega
                      | false =>
                        have HV : Hid (rowR p s (k + 1) (j + 1) = false) := by
                          show rowR p s (k + 1) (j + 1) = _
                          rw [rowR_succ, h42, h37]
                          simp_all
                        go_wp2
                        go_region
                        all_goals
                          go_wp2
                          go_roundw
                          case rel => exact ⟨j + 1, by omega, by go_num, by rw [← until_succ (p.size + 1) (rowR p s (k + 1)) (j + 1) false (by rw [HV.out])]; exact hG.setV (j + 1) _, hB.far (p := ⟨g, j + 1, none⟩) hne _, by simpa [World.setCell] using hb5, by simpa [World.setCell] using hg5, (hW.setCell (p := ⟨g, j + 1, none⟩) hg3 _).drew⟩
                          case measure => simp [intOf]; omega
                    | false =>
                      rw [hf] at q3
                      have HV : Hid (rowR p s (k + 1) (j + 1) = false) := by
                        show rowR p s (k + 1) (j + 1) = _
                        rw [rowR_succ, h42, h37]
                        simp_all
                      go_wp2
                      go_region
                      all_goals
                        go_wp2
                        go_roundw
                        case rel => exact ⟨j + 1, by omega, by go_num, by rw [← until_succ (p.size + 1) (rowR p s (k + 1)) (j + 1) false (by rw [HV.out])]; exact hG.setV (j + 1) _, hB.far (p := ⟨g, j + 1, none⟩) hne _, by simpa [World.setCell] using hb5, by simpa [World.setCell] using hg5, (hW.setCell (p := ⟨g, j + 1, none⟩) hg3 _).drew⟩
                        case measure => simp [intOf]; omega
              · obtain rfl : j = p.size := by omega
                rw [until_all] at hG
                go_wp2
                go_roundw
                case rel => exact ⟨g, k + 1, by omega, by go_num, rfl, hG, hg3, hg5, hW⟩
                case measure => simp [intOf]; omega
          · obtain rfl : k = s.size := by omega
            have q1 := hB.cellV p.size (by omega)
            go_wp2
            go_ret
            exact ⟨by unfold matchB; rw [← HFIN.out]; rfl, hW⟩
end Go.Proofs.Ytlmelclfdafhbaa
