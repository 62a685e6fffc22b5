/- The walk of TextLong. -/
import Derived.Test.YtejodjgeamaejaaDoorText8
namespace Go.Proofs.YtejodjgeamaejaaDoor
open Go.RowKit Go.PlainAid
set_option linter.unusedVariables false
set_option linter.unusedSimpArgs false
theorem RowF.below {w w' : World} {B g n : Nat} {f : Nat → Int} (h : RowF w g n f) (hb : Below B w w') (hg : g < B) : RowF w' g n f := fun j hj => by
  obtain ⟨h1, h2⟩ := h j hj
  refine ⟨(hb.cell (p := ⟨g, j, none⟩) hg).trans h1, ?_⟩
  have := hb.block g hg
  unfold World.frozen? at h2 ⊢
  rw [this]; exact h2
def xsS (m : Nat) : ByteArray := strOfNums ((List.range m).map fun _ => (120 : Int))
theorem xsS_size (m : Nat) : (xsS m).size = m := by unfold xsS; rw [strOfNums_size]; simp
attribute [local go_sem] conv1s conv1_drew
set_option maxRecDepth 100000 in
set_option maxHeartbeats 1000000 in
theorem long_walk (n c : Int) (w0 : (Lit.int .u16 n).wf = true) (w1 : (Lit.int .u8 c).wf = true) (w : World) (hT : TabOK w) : Calls Tryd.prog 6 #[.int .u16 n, .int .u8 c] w fun e w' => e = .returned (.bool true) ∧ Below w.heap.size w w' := by
  obtain ⟨a0, a1⟩ : 0 ≤ n ∧ n < 65536 := by
    simp [Lit.wf, IntKind.min, IntKind.max, IntKind.signed, IntKind.bits] at w0; omega
  obtain ⟨b0, b1⟩ : 0 ≤ c ∧ c < 256 := by
    simp [Lit.wf, IntKind.min, IntKind.max, IntKind.signed, IntKind.bits] at w1; omega
  clear w0 w1
  have hW := Below.refl w.heap.size w
  obtain ⟨m, hm⟩ : ∃ m : Nat, n % 400 = m := Int.eq_ofNat_of_zero_le (by omega)
  have hm1 : m < 400 := by omega
  have p1 : plainB (xsS m) = decide (m ≤ 200) := by unfold plainB; rw [xsS_size]; unfold xsS; rw [plains_xs, Bool.true_and]
  have p2 : plainB (xsS m ++ strOfNums [c]) = (decide (32 ≤ c) && decide (c ≤ 126) && decide (m < 200)) := by
    rw [plain_app_one _ c b0 b1 (by rw [xsS_size]; exact plains_xs m), xsS_size]
  obtain ⟨S, hS⟩ : ∃ S, S = strS (xsS m) := ⟨_, rfl⟩
  obtain ⟨T, hTT⟩ : ∃ T, T = strS (xsS m ++ strOfNums [c]) := ⟨_, rfl⟩
  have q1 := strS_head (xsS m)
  have q2 := strS_head (xsS m ++ strOfNums [c])
  rw [← hS] at q1
  rw [← hTT] at q2
  rw [p1] at q1
  rw [p2] at q2
  obtain ⟨s1, q1⟩ := q1
  obtain ⟨s2, q2⟩ := q2
  have s3 := xsS_size m
  have s4 := size_one c
  have s5 : (xsS m ++ strOfNums [c]).size = m + 1 := by rw [ByteArray.size_append]; omega
  have HS : Hid (StrOf 14 (xsS m) S) := str_of _ _ (by omega) hS.symm
  have HT : Hid (StrOf 14 (xsS m ++ strOfNums [c]) T) := str_of _ _ (by omega) hTT.symm
  have z1 : S.size ≤ 7000 := by rw [hS]; exact strS_size_le (xsS m) (by omega)
  have z2 : T.size ≤ 7000 := by rw [hTT]; exact strS_size_le _ (by omega)
  have hb1 := get_bt S
  have hb2 := get_bt T
  have n1 : ¬ S = ByteArray.empty := fun h => by rw [h] at s1; exact absurd s1 (by decide)
  have n2 : ¬ T = ByteArray.empty := fun h => by rw [h] at s2; exact absurd s2 (by decide)
  have n3 : ((S.size : Int) == 0) = false := by rw [beq_eq_false_iff_ne]; omega
  have n4 : ((T.size : Int) == 0) = false := by rw [beq_eq_false_iff_ne]; omega
  clear hS hTT p1 p2
  have HQ1 := Lib.hid q1
  have HQ2 := Lib.hid q2
  clear q1 q2
  go_enter Tryd.func6, Tryd.ntmps6
  go_wp2_with (at_make; refine wpList_make_row _ rfl (.tmp 14) (.tmp 14) 30 rfl 5 (.int .u8 0) 1 Tryd.underlying30 u8Info rfl .i64 .i64 (n % 400) (n % 400) m rfl rfl hm hm (by omega) (by omega) ?_; intro g w1 hg1 hg2 hblk hw1; (first | replace hW := nextB hW hw1 | replace hW := nextA hW hw1 | replace hW := nextB hW.drew hw1 | replace hW := nextAA hW hw1 | replace hW := nextAD hW hw1); clear hw1)
  go_loopw [7] (fun i wr => ∃ k : Nat, k ≤ m ∧ i = .int .i64 k ∧ RowF wr g m (fun j => if j < k then 120 else 0) ∧ Below w.heap.size w wr ∧ g < wr.heap.size) (fun i _ => m - (intOf i).toNat)
  case atStart => exact ⟨0, by omega, rfl, fun j hj => ⟨by rw [hblk.cellV j hj]; rfl, hblk.frozen j⟩, hW, hg2⟩
  case round =>
    obtain ⟨k, hk, rfl, hrow, hW, hg3⟩ := hrel
    by_cases hlt : k < m
    · obtain ⟨q1, q2⟩ := hrow k hlt
      replace q1 : wr.cell? ⟨g, k, none⟩ = some (.int .u8 0) := by simpa using q1
      go_wp2
      go_roundw
      case rel => exact ⟨k + 1, by omega, by go_num, (hrow.set k 120).congr fun j _ => by
        by_cases e : j = k
        · subst e; rw [if_pos rfl, if_pos (by omega)]
        · rw [if_neg e]; by_cases h : j < k
          · rw [if_pos h, if_pos (by omega)]
          · rw [if_neg h, if_neg (by omega)], hW.setCell (p := ⟨g, k, none⟩) hg1 _, by simpa using hg3⟩
      case measure => simp [intOf]; omega
    · obtain rfl : k = m := by omega
      have hrow2 : RowF wr g k fun _ => 120 := hrow.congr fun j hj => by rw [if_pos hj]
      have hc : (convert 30 9 (.slice (some ⟨g, 0, none⟩) k k)).run Tryd.prog wr = .ok (.string (xsS k)) wr := hrow2.conv k
      clear hrow
      go_wp2_with fail
      refine (HS.out _ (hT.below hW)).mono ?_; rintro e w2 ⟨rfl, hw2⟩
      have hrow3 := hrow2.below hw2 hg3
      have hc2 : (convert 30 9 (.slice (some ⟨g, 0, none⟩) k k)).run Tryd.prog w2 = .ok (.string (xsS k)) w2 := hrow3.conv k
      replace hW := nextB hW hw2
      clear hc hw2
      go_wp2_with fail
      refine (HT.out _ (hT.below (hW.alloc hW.size _))).mono ?_; rintro e w2 ⟨rfl, hw1⟩; (first | replace hW := nextB hW hw1 | replace hW := nextA hW hw1 | replace hW := nextB hW.drew hw1 | replace hW := nextAA hW hw1 | replace hW := nextAD hW hw1); clear hw1
      clear hc2 hrow2 hrow3
      have f1 : bt S 0 = if k ≤ 200 then 34 else 123 := by have := HQ1.out; simpa using this
      have f2 := HQ2.out
      clear HQ1 HQ2
      by_cases h200 : k ≤ 200
      all_goals by_cases h199 : k < 200
      all_goals first | (exfalso; omega) | skip
      all_goals by_cases hc1 : 32 ≤ c
      all_goals by_cases hc2 : c ≤ 126
      all_goals
        simp only [h200, h199, hc1, hc2, if_true, if_false, decide_true, decide_false, Bool.and_true, Bool.and_false, Bool.true_and, Bool.false_and, reduceIte, Bool.false_eq_true] at f1 f2
        go_wp2_with (go_at_call 13; refine (awake1_any _ (hT.below hW)).mono ?_; rintro e w1 ⟨rfl, hw1⟩; (first | replace hW := nextB hW hw1 | replace hW := nextA hW hw1 | replace hW := nextB hW.drew hw1 | replace hW := nextAA hW hw1 | replace hW := nextAD hW hw1); clear hw1)
        all_goals
          go_ret
          exact ⟨by first | rfl | exact bool_ret (by simp; omega), hW⟩
end Go.Proofs.YtejodjgeamaejaaDoor
