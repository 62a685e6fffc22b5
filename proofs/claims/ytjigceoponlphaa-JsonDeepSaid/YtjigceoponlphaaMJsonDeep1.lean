/- Texts of one seat, one behind the other: Jlaw2. No condition. -/
import Derived.Test.YtjigceoponlphaaQ7
/-! JsonDeep: its walk. -/
namespace Go.Proofs.Ytjigceoponlphaa
open Go.RowKit Go.PlainAid
set_option linter.unusedVariables false
set_option linter.unusedSimpArgs false
set_option maxRecDepth 100000 in
set_option maxHeartbeats 4000000 in
theorem jsonDeep_false (n : Int) (w : World) (h0 : 0 ≤ n) (h1 : n < 256) :
    Calls Try.prog 6 #[.int .u8 n, .bool false] w fun e w' => e = .returned (.bool true) ∧ Below w.heap.size w w' := by
  obtain ⟨k, hk⟩ : ∃ k : Nat, (k : Int) = 1 + n % 40 := ⟨(1 + n % 40).toNat, by omega⟩
  have hk1 : 1 ≤ k := by omega
  have hk40 : k ≤ 40 := by omega
  have hrm : n.tmod 40 = n % 40 := Int.tmod_eq_emod_of_nonneg h0
  have hwr : IntKind.i64.wrap (1 + n % 40) = k := by rw [← hk]; exact IntWalk.i64_in _ (by omega)
  have hwm : IntKind.i64.wrap (n % 40) = n % 40 := IntWalk.i64_in _ (by omega)
  have hw0 : IntKind.i64.wrap n = n := IntWalk.i64_in _ (by omega)
  have hW := Below.refl w.heap.size w
  have HPN := Lib.hid (parse_nest false k hk40)
  clear hk
  go_enter Try.func6, Try.ntmps6
  go_wp2_with fail
  go_loop [8, 9] (fun t8 t9 => ∃ (i : Nat) (S : ByteArray), i ≤ k ∧ t8 = .string S ∧ t9 = .int .i64 i ∧ Hid (S.toList = rep (nOpen false) i) ∧ S.size = i * 1) (fun _ t9 => k - (intOf t9).toNat)
  case atStart => exact ⟨0, ⟨#[]⟩, by omega, rfl, rfl, (by show _ = _; rw [lit_toList []]; rfl), by rfl⟩
  case round =>
    obtain ⟨i, S, hi, rfl, rfl, hS, hz⟩ := hrel
    by_cases hlt : i < k
    · have n1 : Hid ((S ++ ⟨#[91]⟩ : ByteArray).toList = rep (nOpen false) (i + 1)) := by
        show _ = _
        rw [app_toList, hS.out, rep_right, lit_toList [91]]
        rfl
      have n2 : (S ++ ⟨#[91]⟩ : ByteArray).size = (i + 1) * 1 := by
        rw [ByteArray.size_append, hz]
        have : (⟨#[91]⟩ : ByteArray).size = 1 := rfl
        omega
      have z1 : (⟨#[91]⟩ : ByteArray).size = 1 := rfl
      go_wp2_with fail
      go_round
      case rel => exact ⟨i + 1, _, by omega, rfl, by go_num, n1, n2⟩
      case measure => simp [intOf]; omega
    · obtain rfl : i = k := by omega
      have m1 : Hid ((S ++ ⟨#[49]⟩ : ByteArray).toList = rep (nOpen false) i ++ [49]) := by
        show _ = _
        rw [app_toList, hS.out, one_lit]
      have m2 : (S ++ ⟨#[49]⟩ : ByteArray).size = i * 1 + 1 := by
        rw [ByteArray.size_append, hz]; rfl
      have z2 : (⟨#[49]⟩ : ByteArray).size = 1 := rfl
      go_wp2_with fail
      generalize (S ++ ⟨#[49]⟩ : ByteArray) = M at *
      go_loop [8, 10] (fun t8 t10 => ∃ (j : Nat) (T : ByteArray), j ≤ i ∧ t8 = .string T ∧ t10 = .int .i64 j ∧ Hid (T.toList = M.toList ++ rep (nShut false) j) ∧ T.size = M.size + j) (fun _ t10 => i - (intOf t10).toNat)
      case atStart => exact ⟨0, M, by omega, rfl, rfl, by show _ = _; rw [rep_zero, List.append_nil], by omega⟩
      case round =>
        obtain ⟨j, T, hj, rfl, rfl, hT, hzT⟩ := hrel
        by_cases hlt : j < i
        · have n1 : Hid ((T ++ ⟨#[93]⟩ : ByteArray).toList = M.toList ++ rep (nShut false) (j + 1)) := by
            show _ = _
            rw [app_toList, hT.out, rep_right, lit_toList [93], List.append_assoc]
            rfl
          have n2 : (T ++ ⟨#[93]⟩ : ByteArray).size = M.size + (j + 1) := by
            rw [ByteArray.size_append, hzT]
            have : (⟨#[93]⟩ : ByteArray).size = 1 := rfl
            omega
          have z1 : (⟨#[93]⟩ : ByteArray).size = 1 := rfl
          go_wp2_with fail
          go_round
          case rel => exact ⟨j + 1, _, by omega, rfl, by go_num, n1, n2⟩
          case measure => simp [intOf]; omega
        · obtain rfl : j = i := by omega
          have HR : Hid (parseL T.toList = if 24 < j then .error 4 else .ok (nest false j)) := by
            show _ = _
            rw [hT.out, m1.out]; exact HPN.out
          have HP : Hid (∀ w' A c, BytesAt w' A c T → Calls Try.prog 13 #[.slice A T.size c] w' (PEnd (parseL T.toList) w')) := fun w' A c hb => parse_law T A c w' hb
          clear HPN hS m1 hT hzT m2 hz
          by_cases h24 : 24 < j
          · have e1 : Hid (parseL T.toList = .error 4) := Lib.hid (by rw [HR.out, if_pos h24])
            have h24i : (24 : Int) < (j : Int) := by omega
            go_wp2_with (with_reducible refine wpList_bytes_of _ rfl (.tmp 37) rfl _ rfl ?_; intro g c9 w4 hg1 hg2 hrow hb4)
            have HPC := HP.out w4 _ c9 (BytesAt.of_row hg2 hrow)
            rw [e1.out] at HPC
            replace hW := nextB hW hb4
            clear hg1 hg2 hrow hb4 HP HR e1
            refine (HPC : Calls _ _ _ _ _).mono ?_; rintro e w5 ⟨rfl, hw5⟩
            replace hW := nextB hW hw5
            clear HPC hw5
            go_wp2_with fail
            refine (jnum_any _ _).mono ?_; rintro e w6 ⟨rfl, hw⟩; obtain rfl : _ = w6 := hw
            go_wp2_with (go_at_call 12; refine (awake7_any _).mono ?_; rintro e w8 ⟨rfl, hw1⟩; (first | replace hW := nextB hW hw1 | replace hW := nextA hW hw1 | replace hW := nextB hW.drew hw1 | replace hW := nextAA hW hw1 | replace hW := nextAD hW hw1); clear hw1)
            go_ret
            exact ⟨rfl, hW⟩
          · have e1 : Hid (parseL T.toList = .ok (nest false j)) := Lib.hid (by rw [HR.out, if_neg h24])
            have h24i : ¬ (24 : Int) < (j : Int) := by omega
            have hdd : decide (24 < j) = false := decide_eq_false h24
            have hdi : decide ((24 : Int) < (j : Int)) = false := decide_eq_false h24i
            have HDD := Lib.hid hdd
            go_wp2_with (with_reducible refine wpList_bytes_of _ rfl (.tmp 37) rfl _ rfl ?_; intro g c9 w4 hg1 hg2 hrow hb4)
            have HPC := HP.out w4 _ c9 (BytesAt.of_row hg2 hrow)
            rw [e1.out] at HPC
            replace hW := nextB hW hb4
            clear hg1 hg2 hrow hb4 HP HR e1
            refine (HPC : Calls _ _ _ _ _).mono ?_; rintro e w5 ⟨c0, c1, c2, c3, c4, c5, c6, c7, c8, rfl, hn, hw5⟩
            replace hW := nextB hW hw5
            clear HPC hw5 hn
            go_wp2_with fail
            refine (jnum_any _ _).mono ?_; rintro e w6 ⟨rfl, hw⟩; obtain rfl : _ = w6 := hw
            go_wp2_with fail
            refine (jnum_any _ _).mono ?_; rintro e w6 ⟨rfl, hw⟩; obtain rfl : _ = w6 := hw
            go_wp2_with (go_at_call 12; refine (awake7_any _).mono ?_; rintro e w8 ⟨rfl, hw1⟩; (first | replace hW := nextB hW hw1 | replace hW := nextA hW hw1 | replace hW := nextB hW.drew hw1 | replace hW := nextAA hW hw1 | replace hW := nextAD hW hw1); clear hw1)
            go_ret
            refine ⟨?_, hW⟩
            simp [HDD.out]
set_option maxRecDepth 100000 in
set_option maxHeartbeats 4000000 in
theorem jsonDeep_true (n : Int) (w : World) (h0 : 0 ≤ n) (h1 : n < 256) :
    Calls Try.prog 6 #[.int .u8 n, .bool true] w fun e w' => e = .returned (.bool true) ∧ Below w.heap.size w w' := by
  obtain ⟨k, hk⟩ : ∃ k : Nat, (k : Int) = 1 + n % 40 := ⟨(1 + n % 40).toNat, by omega⟩
  have hk1 : 1 ≤ k := by omega
  have hk40 : k ≤ 40 := by omega
  have hrm : n.tmod 40 = n % 40 := Int.tmod_eq_emod_of_nonneg h0
  have hwr : IntKind.i64.wrap (1 + n % 40) = k := by rw [← hk]; exact IntWalk.i64_in _ (by omega)
  have hwm : IntKind.i64.wrap (n % 40) = n % 40 := IntWalk.i64_in _ (by omega)
  have hw0 : IntKind.i64.wrap n = n := IntWalk.i64_in _ (by omega)
  have hW := Below.refl w.heap.size w
  have HPN := Lib.hid (parse_nest true k hk40)
  clear hk
  go_enter Try.func6, Try.ntmps6
  go_wp2_with fail
  go_loop [8, 9] (fun t8 t9 => ∃ (i : Nat) (S : ByteArray), i ≤ k ∧ t8 = .string S ∧ t9 = .int .i64 i ∧ Hid (S.toList = rep (nOpen true) i) ∧ S.size = i * 5) (fun _ t9 => k - (intOf t9).toNat)
  case atStart => exact ⟨0, ⟨#[]⟩, by omega, rfl, rfl, (by show _ = _; rw [lit_toList []]; rfl), by rfl⟩
  case round =>
    obtain ⟨i, S, hi, rfl, rfl, hS, hz⟩ := hrel
    by_cases hlt : i < k
    · have n1 : Hid ((S ++ ⟨#[123, 34, 97, 34, 58]⟩ : ByteArray).toList = rep (nOpen true) (i + 1)) := by
        show _ = _
        rw [app_toList, hS.out, rep_right, lit_toList [123, 34, 97, 34, 58]]
        rfl
      have n2 : (S ++ ⟨#[123, 34, 97, 34, 58]⟩ : ByteArray).size = (i + 1) * 5 := by
        rw [ByteArray.size_append, hz]
        have : (⟨#[123, 34, 97, 34, 58]⟩ : ByteArray).size = 5 := rfl
        omega
      have z1 : (⟨#[123, 34, 97, 34, 58]⟩ : ByteArray).size = 5 := rfl
      go_wp2_with fail
      go_round
      case rel => exact ⟨i + 1, _, by omega, rfl, by go_num, n1, n2⟩
      case measure => simp [intOf]; omega
    · obtain rfl : i = k := by omega
      have m1 : Hid ((S ++ ⟨#[49]⟩ : ByteArray).toList = rep (nOpen true) i ++ [49]) := by
        show _ = _
        rw [app_toList, hS.out, one_lit]
      have m2 : (S ++ ⟨#[49]⟩ : ByteArray).size = i * 5 + 1 := by
        rw [ByteArray.size_append, hz]; rfl
      have z2 : (⟨#[49]⟩ : ByteArray).size = 1 := rfl
      go_wp2_with fail
      generalize (S ++ ⟨#[49]⟩ : ByteArray) = M at *
      go_loop [8, 10] (fun t8 t10 => ∃ (j : Nat) (T : ByteArray), j ≤ i ∧ t8 = .string T ∧ t10 = .int .i64 j ∧ Hid (T.toList = M.toList ++ rep (nShut true) j) ∧ T.size = M.size + j) (fun _ t10 => i - (intOf t10).toNat)
      case atStart => exact ⟨0, M, by omega, rfl, rfl, by show _ = _; rw [rep_zero, List.append_nil], by omega⟩
      case round =>
        obtain ⟨j, T, hj, rfl, rfl, hT, hzT⟩ := hrel
        by_cases hlt : j < i
        · have n1 : Hid ((T ++ ⟨#[125]⟩ : ByteArray).toList = M.toList ++ rep (nShut true) (j + 1)) := by
            show _ = _
            rw [app_toList, hT.out, rep_right, lit_toList [125], List.append_assoc]
            rfl
          have n2 : (T ++ ⟨#[125]⟩ : ByteArray).size = M.size + (j + 1) := by
            rw [ByteArray.size_append, hzT]
            have : (⟨#[125]⟩ : ByteArray).size = 1 := rfl
            omega
          have z1 : (⟨#[125]⟩ : ByteArray).size = 1 := rfl
          go_wp2_with fail
          go_round
          case rel => exact ⟨j + 1, _, by omega, rfl, by go_num, n1, n2⟩
          case measure => simp [intOf]; omega
        · obtain rfl : j = i := by omega
          have HR : Hid (parseL T.toList = if 24 < j then .error 4 else .ok (nest true j)) := by
            show _ = _
            rw [hT.out, m1.out]; exact HPN.out
          have HP : Hid (∀ w' A c, BytesAt w' A c T → Calls Try.prog 13 #[.slice A T.size c] w' (PEnd (parseL T.toList) w')) := fun w' A c hb => parse_law T A c w' hb
          clear HPN hS m1 hT hzT m2 hz
          by_cases h24 : 24 < j
          · have e1 : Hid (parseL T.toList = .error 4) := Lib.hid (by rw [HR.out, if_pos h24])
            have h24i : (24 : Int) < (j : Int) := by omega
            go_wp2_with (with_reducible refine wpList_bytes_of _ rfl (.tmp 37) rfl _ rfl ?_; intro g c9 w4 hg1 hg2 hrow hb4)
            have HPC := HP.out w4 _ c9 (BytesAt.of_row hg2 hrow)
            rw [e1.out] at HPC
            replace hW := nextB hW hb4
            clear hg1 hg2 hrow hb4 HP HR e1
            refine (HPC : Calls _ _ _ _ _).mono ?_; rintro e w5 ⟨rfl, hw5⟩
            replace hW := nextB hW hw5
            clear HPC hw5
            go_wp2_with fail
            refine (jnum_any _ _).mono ?_; rintro e w6 ⟨rfl, hw⟩; obtain rfl : _ = w6 := hw
            go_wp2_with (go_at_call 12; refine (awake7_any _).mono ?_; rintro e w8 ⟨rfl, hw1⟩; (first | replace hW := nextB hW hw1 | replace hW := nextA hW hw1 | replace hW := nextB hW.drew hw1 | replace hW := nextAA hW hw1 | replace hW := nextAD hW hw1); clear hw1)
            go_ret
            exact ⟨rfl, hW⟩
          · have e1 : Hid (parseL T.toList = .ok (nest true j)) := Lib.hid (by rw [HR.out, if_neg h24])
            have h24i : ¬ (24 : Int) < (j : Int) := by omega
            have hdd : decide (24 < j) = false := decide_eq_false h24
            have hdi : decide ((24 : Int) < (j : Int)) = false := decide_eq_false h24i
            have HDD := Lib.hid hdd
            go_wp2_with (with_reducible refine wpList_bytes_of _ rfl (.tmp 37) rfl _ rfl ?_; intro g c9 w4 hg1 hg2 hrow hb4)
            have HPC := HP.out w4 _ c9 (BytesAt.of_row hg2 hrow)
            rw [e1.out] at HPC
            replace hW := nextB hW hb4
            clear hg1 hg2 hrow hb4 HP HR e1
            refine (HPC : Calls _ _ _ _ _).mono ?_; rintro e w5 ⟨c0, c1, c2, c3, c4, c5, c6, c7, c8, rfl, hn, hw5⟩
            replace hW := nextB hW hw5
            clear HPC hw5 hn
            go_wp2_with fail
            refine (jnum_any _ _).mono ?_; rintro e w6 ⟨rfl, hw⟩; obtain rfl : _ = w6 := hw
            go_wp2_with fail
            refine (jnum_any _ _).mono ?_; rintro e w6 ⟨rfl, hw⟩; obtain rfl : _ = w6 := hw
            go_wp2_with (go_at_call 12; refine (awake7_any _).mono ?_; rintro e w8 ⟨rfl, hw1⟩; (first | replace hW := nextB hW hw1 | replace hW := nextA hW hw1 | replace hW := nextB hW.drew hw1 | replace hW := nextAA hW hw1 | replace hW := nextAD hW hw1); clear hw1)
            go_ret
            refine ⟨?_, hW⟩
            simp [HDD.out]
theorem u8_rng7 {n : Int} (h : (Lit.int .u8 n).wf = true) : 0 ≤ n ∧ n < 256 := by
  simp [Lit.wf, IntKind.min, IntKind.max, IntKind.signed, IntKind.bits] at h; omega
theorem jsonDeep_walk (n : Int) (b : Bool) (w0 : (Lit.int .u8 n).wf = true) (w : World) :
    Calls Try.prog 6 #[.int .u8 n, .bool b] w fun e w' => e = .returned (.bool true) ∧ Below w.heap.size w w' := by
  obtain ⟨h0, h1⟩ := u8_rng7 w0
  cases b with
  | false => exact jsonDeep_false n w h0 h1
  | true => exact jsonDeep_true n w h0 h1
end Go.Proofs.Ytjigceoponlphaa
