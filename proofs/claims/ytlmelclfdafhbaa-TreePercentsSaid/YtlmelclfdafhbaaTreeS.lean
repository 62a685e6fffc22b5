/- TreeSelf, TreePercents: their walks. -/
import Derived.Test.YtlmelclfdafhbaaTreeL
namespace Go.Proofs.Ytlmelclfdafhbaa
open Go.RowKit Go.PlainAid
set_option linter.unusedVariables false
set_option linter.unusedSimpArgs false
def anyB (b : ByteArray) (x : Int) : Nat → Bool
  | 0 => false
  | i + 1 => anyB b x i || bt b i == x
theorem anyB_false (b : ByteArray) (n : Nat) (hn : n < 256) : ∀ i, i ≤ b.toList.length → (anyB b n i = false ↔ UInt8.ofNat n ∉ b.toList.take i) := by
  intro i
  induction i with
  | zero => intro _; simp [anyB]
  | succ i ih =>
    intro hi
    rw [List.take_succ_eq_append_getElem (by omega)]
    simp only [anyB]
    rw [Bool.or_eq_false_iff, ih (by omega), bt_at b i (by omega), u8_eq _ n hn, decide_eq_false_iff_not, List.mem_append, List.mem_singleton, not_or, eq_comm (a := UInt8.ofNat n)]
theorem noneB {b : ByteArray} {n : Nat} (hn : n < 256) (h : anyB b n b.size = false) : UInt8.ofNat n ∉ b.toList := by
  have := (anyB_false b n hn b.size (by rw [toList_len]; omega)).1 h
  rwa [← toList_len, List.take_length] at this
theorem plain_of {s : ByteArray} (h : ∀ j, j < s.size → (bt s j == 42) = false ∧ (bt s j == 37) = false) : plainL s.toList := by
  intro c hc
  obtain ⟨j, hj, rfl⟩ := List.mem_iff_getElem.1 hc
  have := h j (by rw [← toList_len]; exact hj)
  rw [bt_at s j hj] at this
  have a1 : ((s.toList[j].toNat : Int) == 42) = decide (s.toList[j] = 42) := u8_eq (s.toList[j]) 42 (by decide)
  have a2 : ((s.toList[j].toNat : Int) == 37) = decide (s.toList[j] = 37) := u8_eq (s.toList[j]) 37 (by decide)
  rw [a1, a2, decide_eq_false_iff_not, decide_eq_false_iff_not] at this
  exact this
theorem mB_true {p s : ByteArray} {l t : List UInt8} (h : MatchL l t) (hp : p.toList = l) (hs : s.toList = t) : matchB p s = true := by
  rw [matchB_iff, hp, hs]; exact h
theorem mB_false {p s : ByteArray} {l t : List UInt8} (h : ¬ MatchL l t) (hp : p.toList = l) (hs : s.toList = t) : matchB p s = false := by
  cases hb : matchB p s with
  | false => rfl
  | true => rw [matchB_iff, hp, hs] at hb; exact absurd hb h
theorem lit_toList (l : List UInt8) : (⟨l.toArray⟩ : ByteArray).toList = l := by rw [ByteArray.toList_eq]
theorem self_facts (a b c : ByteArray) (h : plainL (a ++ b ++ c).toList) : matchB (a ++ b ++ c) (a ++ b ++ c) = true ∧ matchB (a ++ b ++ c) (a ++ b ++ c ++ ⟨#[120]⟩) = false ∧ matchB ⟨#[42]⟩ (a ++ b ++ c) = true ∧ matchB (a ++ ⟨#[42]⟩ ++ c) (a ++ b ++ c) = true ∧ matchB (⟨#[42]⟩ ++ b ++ ⟨#[42]⟩) (a ++ b ++ c) = true ∧ ((47 : UInt8) ∉ b.toList → matchB (a ++ ⟨#[37]⟩ ++ c) (a ++ b ++ c) = true) := by
  have e : (a ++ b ++ c).toList = a.toList ++ b.toList ++ c.toList := by rw [app_toList, app_toList]
  have l42 : (⟨#[42]⟩ : ByteArray).toList = [42] := lit_toList [42]
  have l37 : (⟨#[37]⟩ : ByteArray).toList = [37] := lit_toList [37]
  have l120 : (⟨#[120]⟩ : ByteArray).toList = [120] := lit_toList [120]
  rw [e] at h
  have ha : plainL a.toList := fun x hx => h x (by simp [hx])
  have hc : plainL c.toList := fun x hx => h x (by simp [hx])
  refine ⟨mB_true (match_self _ h) e e, mB_false ?_ e (by rw [app_toList, e, l120]), mB_true (match_star _) l42 e, ?_, ?_, ?_⟩
  · intro hm
    have := match_only _ _ h hm
    have := congrArg List.length this
    simp at this
  · refine mB_true (l := a.toList ++ [42] ++ c.toList) ?_ (by rw [app_toList, app_toList, l42]) e
    exact (matchL_app _ _ _).2 ⟨_, _, rfl, (matchL_app _ _ _).2 ⟨_, _, rfl, match_self _ ha, match_star _⟩, match_self _ hc⟩
  · refine mB_true (l := [42] ++ b.toList ++ [42]) ?_ (by rw [app_toList, app_toList, l42]) e
    have hb : plainL b.toList := fun x hx => h x (by simp [hx])
    exact (matchL_app _ _ _).2 ⟨_, _, rfl, (matchL_app _ _ _).2 ⟨_, _, rfl, match_star _, match_self _ hb⟩, match_star _⟩
  · intro hs
    refine mB_true (l := a.toList ++ [37] ++ c.toList) ?_ (by rw [app_toList, app_toList, l37]) e
    exact (matchL_app _ _ _).2 ⟨_, _, rfl, (matchL_app _ _ _).2 ⟨_, _, rfl, match_self _ ha, (match_percent _).2 hs⟩, match_self _ hc⟩
set_option maxHeartbeats 1000000 in
set_option maxRecDepth 100000 in
theorem self_walk (a b c : ByteArray) (w0 : a.size ≤ maxLen) (w1 : b.size ≤ maxLen) (w2 : c.size ≤ maxLen) (w : World) : Calls Try.prog 4 #[.string a, .string b, .string c] w fun e w' => e = .returned (.bool true) ∧ Below w.heap.size w w' := by
  unfold maxLen at w0 w1 w2
  have hW := Below.refl w.heap.size w
  by_cases ha : a.size ≤ 100
  · by_cases hb : b.size ≤ 100
    · by_cases hc : c.size ≤ 100
      · have z1 : (a ++ b ++ c).size ≤ 300 := by simp only [ByteArray.size_append]; omega
        have z0 : (a ++ b).size ≤ 200 := by simp only [ByteArray.size_append]; omega
        have hb1 := get_bt b
        have hb2 := get_bt (a ++ b ++ c)
        go_enter Try.func4, Try.ntmps4
        go_wp2
        go_loop [8, 9] (fun sl i => ∃ k : Nat, k ≤ b.size ∧ i = .int .i64 k ∧ sl = .bool (anyB b 47 k)) (fun _ i => b.size - (intOf i).toNat)
        case atStart => exact ⟨0, by omega, rfl, rfl⟩
        case round =>
          obtain ⟨k, hk, rfl, rfl⟩ := hrel
          by_cases hlt : k < b.size
          · cases h0 : anyB b 47 k with
            | true =>
              have hn : Hid (anyB b 47 (k + 1) = true) := by show _ = _; simp only [anyB, h0, Bool.true_or]
              go_wp2
              go_round
              case rel => exact ⟨k + 1, by omega, by go_num, by rw [hn.out]⟩
              case measure => simp [intOf]; omega
            | false =>
              have hn : Hid (anyB b 47 (k + 1) = (bt b k == 47)) := by show _ = _; simp only [anyB, h0, Bool.false_or]
              go_wp2
              go_round
              case rel => exact ⟨k + 1, by omega, by go_num, by rw [hn.out]⟩
              case measure => simp [intOf]; omega
          · obtain rfl : k = b.size := by omega
            go_wp2
            go_loop [10] (fun i => ∃ k : Nat, k ≤ a.size + b.size + c.size ∧ i = .int .i64 k ∧ Hid (∀ j, j < k → (bt (a ++ b ++ c) j == 42) = false ∧ (bt (a ++ b ++ c) j == 37) = false)) (fun i => a.size + b.size + c.size - (intOf i).toNat)
            case atStart => exact ⟨0, by omega, rfl, fun j hj => absurd hj (by omega)⟩
            case round =>
              obtain ⟨k, hk, rfl, hall⟩ := hrel
              by_cases hlt' : k < a.size + b.size + c.size
              · cases h42 : (bt (a ++ b ++ c) k == 42) with
                | true =>
                  go_wp2_with (go_at_call 10; refine (awake16_any _).mono ?_; rintro e w1 ⟨rfl, hw1⟩; (first | replace hW := nextB hW hw1 | replace hW := nextA hW hw1 | replace hW := nextB hW.drew hw1 | replace hW := nextAA hW hw1); clear hw1)
                  go_ret
                  exact ⟨rfl, hW⟩
                | false =>
                  cases h37 : (bt (a ++ b ++ c) k == 37) with
                  | true =>
                    go_wp2_with (go_at_call 10; refine (awake16_any _).mono ?_; rintro e w1 ⟨rfl, hw1⟩; (first | replace hW := nextB hW hw1 | replace hW := nextA hW hw1 | replace hW := nextB hW.drew hw1 | replace hW := nextAA hW hw1); clear hw1)
                    go_ret
                    exact ⟨rfl, hW⟩
                  | false =>
                    have hn : Hid (∀ j, j < k + 1 → (bt (a ++ b ++ c) j == 42) = false ∧ (bt (a ++ b ++ c) j == 37) = false) := fun j hj => by
                      by_cases e : j = k
                      · rw [e]; exact ⟨h42, h37⟩
                      · exact hall.out j (by omega)
                    go_wp2
                    go_round
                    case rel => exact ⟨k + 1, by omega, by go_num, hn⟩
                    case measure => simp [intOf]; omega
              · have hke : k = (a ++ b ++ c).size := by simp only [ByteArray.size_append]; omega
                have hpl := plain_of (s := a ++ b ++ c) (by rw [← hke]; exact hall.out)
                obtain ⟨m1, m2, m3, m4, m5, m6⟩ := self_facts a b c hpl
                have y1 : (a ++ b ++ c ++ (⟨#[120]⟩ : ByteArray)).size ≤ 400 := by rw [ByteArray.size_append]; have : (⟨#[120]⟩ : ByteArray).size = 1 := rfl; omega
                have s42 : (⟨#[42]⟩ : ByteArray).size = 1 := rfl
                have s37 : (⟨#[37]⟩ : ByteArray).size = 1 := rfl
                have y2 : (⟨#[42]⟩ : ByteArray).size ≤ 1 := by omega
                have y3 : (a ++ (⟨#[42]⟩ : ByteArray) ++ c).size ≤ 400 := by simp only [ByteArray.size_append]; omega
                have y4 : ((⟨#[42]⟩ : ByteArray) ++ b ++ (⟨#[42]⟩ : ByteArray)).size ≤ 400 := by simp only [ByteArray.size_append]; omega
                have y5 : (a ++ (⟨#[37]⟩ : ByteArray) ++ c).size ≤ 400 := by simp only [ByteArray.size_append]; omega
                have y6 : (a ++ (⟨#[42]⟩ : ByteArray)).size ≤ 400 := by simp only [ByteArray.size_append]; omega
                have y7 : ((⟨#[42]⟩ : ByteArray) ++ b).size ≤ 400 := by simp only [ByteArray.size_append]; omega
                have y8 : (a ++ (⟨#[37]⟩ : ByteArray)).size ≤ 400 := by simp only [ByteArray.size_append]; omega
                clear hall hke hpl s42 s37
                cases hsl : anyB b 47 b.size with
                | true =>
                  clear m6
                  go_wp2_with (first
                    | (go_at_call 10; refine (awake16_any _).mono ?_; rintro e w1 ⟨rfl, hw1⟩; (first | replace hW := nextB hW hw1 | replace hW := nextA hW hw1 | replace hW := nextB hW.drew hw1 | replace hW := nextAA hW hw1); clear hw1)
                    | (go_at_call 8; refine (match_any _ _ _ (by omega) (by omega)).mono ?_; rintro e w1 ⟨rfl, hw1⟩; (first | replace hW := nextB hW hw1 | replace hW := nextA hW hw1 | replace hW := nextB hW.drew hw1 | replace hW := nextAA hW hw1); clear hw1))
                  go_ret
                  exact ⟨rfl, hW⟩
                | false =>
                  have m7 := m6 (noneB (n := 47) (by decide) hsl)
                  clear m6
                  go_wp2_with (first
                    | (go_at_call 10; refine (awake16_any _).mono ?_; rintro e w1 ⟨rfl, hw1⟩; (first | replace hW := nextB hW hw1 | replace hW := nextA hW hw1 | replace hW := nextB hW.drew hw1 | replace hW := nextAA hW hw1); clear hw1)
                    | (go_at_call 8; refine (match_any _ _ _ (by omega) (by omega)).mono ?_; rintro e w1 ⟨rfl, hw1⟩; (first | replace hW := nextB hW hw1 | replace hW := nextA hW hw1 | replace hW := nextB hW.drew hw1 | replace hW := nextAA hW hw1); clear hw1))
                  go_ret
                  exact ⟨rfl, hW⟩
      · go_enter Try.func4, Try.ntmps4
        go_wp2_with (go_at_call 10; refine (awake16_any _).mono ?_; rintro e w1 ⟨rfl, hw1⟩; (first | replace hW := nextB hW hw1 | replace hW := nextA hW hw1 | replace hW := nextB hW.drew hw1 | replace hW := nextAA hW hw1); clear hw1)
        go_ret
        exact ⟨rfl, hW⟩
    · go_enter Try.func4, Try.ntmps4
      go_wp2_with (go_at_call 10; refine (awake16_any _).mono ?_; rintro e w1 ⟨rfl, hw1⟩; (first | replace hW := nextB hW hw1 | replace hW := nextA hW hw1 | replace hW := nextB hW.drew hw1 | replace hW := nextAA hW hw1); clear hw1)
      go_ret
      exact ⟨rfl, hW⟩
  · go_enter Try.func4, Try.ntmps4
    go_wp2_with (go_at_call 10; refine (awake16_any _).mono ?_; rintro e w1 ⟨rfl, hw1⟩; (first | replace hW := nextB hW hw1 | replace hW := nextA hW hw1 | replace hW := nextB hW.drew hw1 | replace hW := nextAA hW hw1); clear hw1)
    go_ret
    exact ⟨rfl, hW⟩
theorem percent_facts (a b : ByteArray) (ha : (47 : UInt8) ∉ a.toList) (hb : (47 : UInt8) ∉ b.toList) : matchB ⟨#[37]⟩ a = true ∧ matchB ⟨#[37, 47, 37]⟩ (a ++ ⟨#[47]⟩ ++ b) = true ∧ matchB ⟨#[37]⟩ (a ++ ⟨#[47]⟩ ++ b) = false ∧ matchB ⟨#[37, 47, 37]⟩ a = false ∧ matchB ⟨#[42, 47, 37]⟩ (a ++ ⟨#[47]⟩ ++ b) = true ∧ matchB ⟨#[37, 42]⟩ (a ++ ⟨#[47]⟩ ++ b) = true := by
  have l47 : (⟨#[47]⟩ : ByteArray).toList = [47] := lit_toList [47]
  have l37 : (⟨#[37]⟩ : ByteArray).toList = [37] := lit_toList [37]
  have l1 : (⟨#[37, 47, 37]⟩ : ByteArray).toList = [37] ++ ([47] ++ [37]) := lit_toList [37, 47, 37]
  have l2 : (⟨#[42, 47, 37]⟩ : ByteArray).toList = [42] ++ ([47] ++ [37]) := lit_toList [42, 47, 37]
  have l3 : (⟨#[37, 42]⟩ : ByteArray).toList = [37] ++ [42] := lit_toList [37, 42]
  have e : (a ++ (⟨#[47]⟩ : ByteArray) ++ b).toList = a.toList ++ ([47] ++ b.toList) := by rw [app_toList, app_toList, l47]; simp
  have p47 : ∀ t : List UInt8, MatchL [47] t ↔ t = [47] := fun t => by rw [matchL_one]; unfold segOk; rw [if_neg (by decide), if_neg (by decide)]
  have tail : MatchL ([47] ++ [37]) ([47] ++ b.toList) := (matchL_app _ _ _).2 ⟨_, _, rfl, (p47 _).2 rfl, (match_percent _).2 hb⟩
  refine ⟨mB_true ((match_percent _).2 ha) l37 rfl, mB_true ?_ l1 e, mB_false ?_ l37 e, mB_false ?_ l1 rfl, mB_true ?_ l2 e, mB_true ?_ l3 e⟩
  · exact (matchL_app _ _ _).2 ⟨_, _, rfl, (match_percent _).2 ha, tail⟩
  · intro h
    exact (match_percent _).1 h (by simp)
  · intro h
    obtain ⟨s1, s2, h0, h1, h2⟩ := (matchL_app _ _ _).1 h
    obtain ⟨t1, t2, h3, h4, h5⟩ := (matchL_app _ _ _).1 h2
    rw [(p47 _).1 h4] at h3
    rw [h3] at h0
    exact ha (by rw [h0]; simp)
  · exact (matchL_app _ _ _).2 ⟨_, _, rfl, match_star _, tail⟩
  · exact (matchL_app _ _ _).2 ⟨_, _, rfl, (match_percent _).2 ha, match_star _⟩
set_option maxHeartbeats 1000000 in
set_option maxRecDepth 100000 in
theorem percents_walk (a b : ByteArray) (w0 : a.size ≤ maxLen) (w1 : b.size ≤ maxLen) (w : World) : Calls Try.prog 5 #[.string a, .string b] w fun e w' => e = .returned (.bool true) ∧ Below w.heap.size w w' := by
  unfold maxLen at w0 w1
  have hW := Below.refl w.heap.size w
  by_cases ha : a.size ≤ 100
  · by_cases hb : b.size ≤ 100
    · have hb1 := get_bt a
      have hb2 := get_bt b
      go_enter Try.func5, Try.ntmps5
      go_wp2
      go_loop [5] (fun i => ∃ k : Nat, k ≤ a.size ∧ i = .int .i64 k ∧ Hid (anyB a 47 k = false)) (fun i => a.size - (intOf i).toNat)
      case atStart => exact ⟨0, by omega, rfl, rfl⟩
      case round =>
        obtain ⟨k, hk, rfl, hA⟩ := hrel
        by_cases hlt : k < a.size
        · cases h47 : (bt a k == 47) with
          | true =>
            go_wp2_with (go_at_call 10; refine (awake16_any _).mono ?_; rintro e w1 ⟨rfl, hw1⟩; (first | replace hW := nextB hW hw1 | replace hW := nextA hW hw1 | replace hW := nextB hW.drew hw1 | replace hW := nextAA hW hw1); clear hw1)
            go_ret
            exact ⟨rfl, hW⟩
          | false =>
            have hn : Hid (anyB a 47 (k + 1) = false) := by show _ = _; simp only [anyB, hA.out, h47, Bool.or_self]
            go_wp2
            go_round
            case rel => exact ⟨k + 1, by omega, by go_num, hn⟩
            case measure => simp [intOf]; omega
        · obtain rfl : k = a.size := by omega
          go_wp2
          go_loop [6] (fun i => ∃ k : Nat, k ≤ b.size ∧ i = .int .i64 k ∧ Hid (anyB b 47 k = false)) (fun i => b.size - (intOf i).toNat)
          case atStart => exact ⟨0, by omega, rfl, rfl⟩
          case round =>
            obtain ⟨k, hk', rfl, hB⟩ := hrel
            by_cases hlt' : k < b.size
            · cases h47 : (bt b k == 47) with
              | true =>
                go_wp2_with (go_at_call 10; refine (awake16_any _).mono ?_; rintro e w1 ⟨rfl, hw1⟩; (first | replace hW := nextB hW hw1 | replace hW := nextA hW hw1 | replace hW := nextB hW.drew hw1 | replace hW := nextAA hW hw1); clear hw1)
                go_ret
                exact ⟨rfl, hW⟩
              | false =>
                have hn : Hid (anyB b 47 (k + 1) = false) := by show _ = _; simp only [anyB, hB.out, h47, Bool.or_self]
                go_wp2
                go_round
                case rel => exact ⟨k + 1, by omega, by go_num, hn⟩
                case measure => simp [intOf]; omega
            · obtain rfl : k = b.size := by omega
              obtain ⟨m1, m2, m3, m4, m5, m6⟩ := percent_facts a b (noneB (n := 47) (by decide) hA.out) (noneB (n := 47) (by decide) hB.out)
              have s47 : (⟨#[47]⟩ : ByteArray).size = 1 := rfl
              have y1 : (a ++ (⟨#[47]⟩ : ByteArray) ++ b).size ≤ 400 := by simp only [ByteArray.size_append]; omega
              have y2 : (a ++ (⟨#[47]⟩ : ByteArray)).size ≤ 400 := by simp only [ByteArray.size_append]; omega
              have y3 : (⟨#[37]⟩ : ByteArray).size ≤ 10 := by decide
              have y4 : (⟨#[37, 47, 37]⟩ : ByteArray).size ≤ 10 := by decide
              have y5 : (⟨#[42, 47, 37]⟩ : ByteArray).size ≤ 10 := by decide
              have y6 : (⟨#[37, 42]⟩ : ByteArray).size ≤ 10 := by decide
              clear s47 hA hB
              go_wp2_with (first
                | (go_at_call 10; refine (awake16_any _).mono ?_; rintro e w1 ⟨rfl, hw1⟩; (first | replace hW := nextB hW hw1 | replace hW := nextA hW hw1 | replace hW := nextB hW.drew hw1 | replace hW := nextAA hW hw1); clear hw1)
                | (go_at_call 8; refine (match_any _ _ _ (by omega) (by omega)).mono ?_; rintro e w1 ⟨rfl, hw1⟩; (first | replace hW := nextB hW hw1 | replace hW := nextA hW hw1 | replace hW := nextB hW.drew hw1 | replace hW := nextAA hW hw1); clear hw1))
              go_ret
              exact ⟨rfl, hW⟩
    · go_enter Try.func5, Try.ntmps5
      go_wp2_with (go_at_call 10; refine (awake16_any _).mono ?_; rintro e w1 ⟨rfl, hw1⟩; (first | replace hW := nextB hW hw1 | replace hW := nextA hW hw1 | replace hW := nextB hW.drew hw1 | replace hW := nextAA hW hw1); clear hw1)
      go_ret
      exact ⟨rfl, hW⟩
  · go_enter Try.func5, Try.ntmps5
    go_wp2_with (go_at_call 10; refine (awake16_any _).mono ?_; rintro e w1 ⟨rfl, hw1⟩; (first | replace hW := nextB hW hw1 | replace hW := nextA hW hw1 | replace hW := nextB hW.drew hw1 | replace hW := nextAA hW hw1); clear hw1)
    go_ret
    exact ⟨rfl, hW⟩
end Go.Proofs.Ytlmelclfdafhbaa
