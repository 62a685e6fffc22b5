/- The walks of TextAtoms and TextLong. -/
import Derived.Test.YtejodjgeamaejaaDoorText5
namespace Go.Proofs.YtejodjgeamaejaaDoor
open Go.RowKit Go.PlainAid
set_option linter.unusedVariables false
set_option linter.unusedSimpArgs false
abbrev signsS : ByteArray := ⟨#[40, 41, 123, 125, 37, 42, 34, 92, 93]⟩
def oneK (c : Int) : Nat → Bool
  | 0 => decide (32 < c) && decide (c < 127)
  | k + 1 => oneK c k && !(c == bt signsS k)
theorem oneK_fin : ∀ c : Fin 256, oneK (c.val : Int) 9 = atomCh (c.val : Int) := by decide +kernel
theorem oneK_all (c : Int) (h0 : 0 ≤ c) (h1 : c < 256) : oneK c 9 = atomCh c := by
  obtain ⟨n, rfl⟩ := Int.eq_ofNat_of_zero_le h0
  exact oneK_fin ⟨n, by omega⟩
theorem atom_one (t : ByteArray) (h : t.size = 1) : atomB t = atomCh (bt t 0) := by
  unfold atomB; rw [h]; simp [atomsB]
theorem atom_strOf (c : Int) (h0 : 0 ≤ c) (h1 : c < 256) : atomB (strOfNums [c]) = atomCh c := by
  rw [atom_one _ (size_one c), bt_strOf [c] 0 c rfl h0 h1]
theorem extract_one (s : ByteArray) (k : Nat) (h : k < s.size) : (s.extract k (k + 1)).size = 1 ∧ bt (s.extract k (k + 1)) 0 = bt s k := by
  have hl : k < s.toList.length := by rw [tl_len]; exact h
  have e := extract_toList s k 1
  have e2 : (s.toList.drop k).take 1 = [s.toList[k]] := by
    rw [List.drop_eq_getElem_cons hl]; rfl
  rw [e2] at e
  refine ⟨by rw [← tl_len, e]; rfl, ?_⟩
  rw [bt_at s k hl, bt_eq _ 0 s.toList[k] (by rw [e]; rfl)]
def AtomOf (s : ByteArray) (b : Bool) : Prop := ∀ w, Calls Tryd.prog 16 #[.string s] w fun e w' => e = .returned (.bool b) ∧ w = w'
theorem atom_of (s : ByteArray) (b : Bool) (hs : s.size ≤ 9223372036854775807) (h : atomB s = b) : AtomOf s b := fun w => by rw [← h]; exact atom_any s w hs
def allK (s : ByteArray) (k : Nat) : Bool := atomsB s k && !(s.size == 0)
theorem allK_succ (s : ByteArray) (k : Nat) : allK s (k + 1) = (allK s k && atomCh (bt s k)) := by
  unfold allK; simp only [atomsB]; cases atomsB s k <;> cases (s.size == 0) <;> cases atomCh (bt s k) <;> rfl
attribute [local go_sem] conv1s conv1_drew
set_option maxRecDepth 100000 in
set_option maxHeartbeats 1000000 in
theorem atoms_walk (c : Int) (s : ByteArray) (w0 : (Lit.int .u8 c).wf = true) (w1 : s.size ≤ maxLen) (w : World) (hT : TabOK w) : Calls Tryd.prog 8 #[.int .u8 c, .string s] w fun e w' => e = .returned (.bool true) ∧ Below w.heap.size w w' := by
  obtain ⟨a0, a1⟩ : 0 ≤ c ∧ c < 256 := by
    simp [Lit.wf, IntKind.min, IntKind.max, IntKind.signed, IntKind.bits] at w0; omega
  unfold maxLen at w1
  clear w0
  have hW := Below.refl w.heap.size w
  by_cases hs : s.size ≤ 300
  · have hb0 : 32 < c → Value.bool (decide (c < 127)) = .bool (oneK c 0) := fun h => by simp only [oneK]; rw [decide_eq_true h]; rfl
    have hb2 : c ≤ 32 → Value.bool false = .bool (oneK c 0) := fun h => by simp only [oneK]; rw [decide_eq_false (by omega)]; rfl
    have hd0 : Value.bool (!s.toList.isEmpty) = .bool (allK s 0) := by
      by_cases h : s.size = 0
      · rw [size_empty h]; unfold allK; rw [h]; rfl
      · have := size_full (s := s) (by omega)
        cases hl : s.toList with
        | nil => exact absurd hl this
        | cons _ _ => unfold allK; simp [atomsB, h]
    have M1 : Hid (AtomOf (strOfNums [c]) (oneK c 9)) := atom_of _ _ (by rw [size_one]; omega) (by rw [atom_strOf c a0 a1, oneK_all c a0 a1])
    have M2 : Hid (AtomOf s (allK s s.size)) := atom_of _ _ (by omega) (by unfold atomB allK; rfl)
    have M3 : Hid (AtomOf ⟨#[]⟩ false) := atom_of _ _ (by decide) (by decide +kernel)
    have M4 : Hid (∀ k, k < s.size → AtomOf (s.extract k (k + 1)) (atomCh (bt s k))) := fun k hk => atom_of _ _ (by rw [(extract_one s k hk).1]; omega) (by rw [atom_one _ (extract_one s k hk).1, (extract_one s k hk).2])
    have HB := Lib.hid hb0
    have HB2 := Lib.hid hb2
    have HD := Lib.hid hd0
    have hg := get_bt signsS
    clear hb0 hd0 hb2
    by_cases c1 : c ≤ 32
    all_goals
      go_enter Tryd.func8, Tryd.ntmps8
      go_wp2
      go_loop [7, 5] (fun i o => ∃ k : Nat, k ≤ 9 ∧ i = .int .i64 k ∧ o = .bool (oneK c k)) (fun i _ => 9 - (intOf i).toNat)
      case atStart => exact ⟨0, by omega, rfl, by first | exact HB2.out (by omega) | exact HB.out (by omega)⟩
      case round =>
        obtain ⟨k, hk, rfl, rfl⟩ := hrel
        by_cases hlt : k < 9
        · have hk9 : k < signsS.size := hlt
          cases h1 : oneK c k with
          | false =>
            have HN : Hid (oneK c (k + 1) = false) := by show _ = _; simp only [oneK, h1, Bool.false_and]
            go_wp2
            go_round
            case rel => exact ⟨k + 1, by omega, by go_num, by rw [HN.out]⟩
            case measure => simp [intOf]; omega
          | true =>
            have HN : Hid (oneK c (k + 1) = !(c == bt signsS k)) := by show _ = _; simp only [oneK, h1, Bool.true_and]
            go_wp2
            go_round
            case rel => exact ⟨k + 1, by omega, by go_num, by rw [HN.out]; rfl⟩
            case measure => simp [intOf]; omega
        · obtain rfl : k = 9 := by omega
          go_wp2
          go_loop [10, 9] (fun i o => ∃ k : Nat, k ≤ s.size ∧ i = .int .i64 k ∧ o = .bool (allK s k)) (fun i _ => s.size - (intOf i).toNat)
          case atStart => exact ⟨0, by omega, rfl, HD.out⟩
          case round =>
            obtain ⟨k, hk, rfl, rfl⟩ := hrel
            by_cases hlt : k < s.size
            · cases h1 : allK s k with
              | false =>
                have HN : Hid (allK s (k + 1) = false) := by show _ = _; rw [allK_succ, h1]; rfl
                go_wp2
                go_round
                case rel => exact ⟨k + 1, by omega, by go_num, by rw [HN.out]⟩
                case measure => simp [intOf]; omega
              | true =>
                have HN : Hid (allK s (k + 1) = atomCh (bt s k)) := by show _ = _; rw [allK_succ, h1]; rfl
                have k1 : (k : Int) + 1 ≤ s.size := by omega
                have k4 : ((k : Int) + 1).toNat = k + 1 := by omega
                have k0 : IntKind.i64.wrap ((k : Int) + 1) = (k : Int) + 1 := IntWalk.i64_in _ (by omega)
                go_wp2_with (go_at_call 16; refine (M4.out k hlt _).mono ?_; rintro e w1 ⟨rfl, hw⟩; obtain rfl : _ = w1 := hw)
                go_round
                case rel => exact ⟨k + 1, by omega, by go_num, by rw [HN.out]⟩
                case measure => simp [intOf]; omega
            · obtain rfl : k = s.size := by omega
              go_wp2_with fail
              refine (M1.out _).mono ?_; rintro e w1 ⟨rfl, hw⟩; obtain rfl : _ = w1 := hw
              go_wp2_with fail
              refine (M2.out _).mono ?_; rintro e w1 ⟨rfl, hw⟩; obtain rfl : _ = w1 := hw
              go_wp2_with fail
              refine (M3.out _).mono ?_; rintro e w1 ⟨rfl, hw⟩; obtain rfl : _ = w1 := hw
              go_wp2_with (go_at_call 13; refine (awake1_any _ (hT.below (hW.alloc hW.size _))).mono ?_; rintro e w1 ⟨rfl, hw1⟩; (first | replace hW := nextB hW hw1 | replace hW := nextA hW hw1 | replace hW := nextB hW.drew hw1 | replace hW := nextAA hW hw1 | replace hW := nextAD hW hw1); clear hw1)
              go_ret
              exact ⟨rfl, hW⟩
  · go_enter Tryd.func8, Tryd.ntmps8
    go_wp2_with (go_at_call 13; refine (awake1_any _ (hT.below hW)).mono ?_; rintro e w1 ⟨rfl, hw1⟩; (first | replace hW := nextB hW hw1 | replace hW := nextA hW hw1 | replace hW := nextB hW.drew hw1 | replace hW := nextAA hW hw1 | replace hW := nextAD hW hw1); clear hw1)
    go_ret
    exact ⟨rfl, hW⟩
end Go.Proofs.YtejodjgeamaejaaDoor
