/- One text in another: both packages; the walks of TextWithin and TextAll. -/
import Derived.Test.YtejodjgeamaejaaDoorText6
import Derived.Test.YtejodjgeamaejaaDoorText7
namespace Go.Proofs.YtejodjgeamaejaaDoor
open Go.RowKit Go.PlainAid
set_option linter.unusedVariables false
set_option linter.unusedSimpArgs false
/-- the library's limit holds some number -/
def MaxOK (w : World) : Prop := ∃ m, w.cell? ⟨0, 0, none⟩ = some (.int .i64 m)
theorem MaxOK.lt {w : World} (h : MaxOK w) : 0 < w.heap.size := by
  obtain ⟨m, hm⟩ := h
  rcases Nat.lt_or_ge 0 w.heap.size with h | h
  · exact h
  · unfold World.cell? at hm
    simp [Array.getElem?_eq_none h] at hm
theorem MaxOK.below {w w1 : World} (h : MaxOK w) (hb : Below w.heap.size w w1) : MaxOK w1 := by
  obtain ⟨m, hm⟩ := h
  exact ⟨m, (hb.cell (p := ⟨0, 0, none⟩) (MaxOK.lt ⟨m, hm⟩)).trans hm⟩
theorem maxOK {w : World} (h : w.ShapedOpen Tryd.prog) : MaxOK w := Tryd.laysM144.s1_3 w h
def inB (s sub : ByteArray) : Bool := Lib.contains (foldS s).toList (foldS sub).toList
set_option linter.unusedVariables false in
theorem in_any (s sub : ByteArray) (w : World) (hs : s.size ≤ 10000) (hu : sub.size ≤ 10000) (hM : MaxOK w) : Calls Tryd.prog 17 #[.string s, .string sub] w fun e w' => e = .returned (.bool (inB s sub)) ∧ Below w.heap.size w w' := by
  have hW := Below.refl w.heap.size w
  have z1 := foldS_size s
  have z2 := foldS_size sub
  have HC : Hid (∀ w, MaxOK w → Calls Tryd.prog 27 #[.string (foldS s), .string (foldS sub)] w fun e w' => e = .returned (.bool (inB s sub)) ∧ w' = w) := fun w h => by
    obtain ⟨m, hm⟩ := h
    have := Tryd.strings_Contains (foldS s) (foldS sub) m w (by omega) hm
    unfold inB
    rw [ByteArray.toList_eq, ByteArray.toList_eq]
    exact this
  go_enter Tryd.func17, Tryd.ntmps17
  go_wp2_with (go_at_call 15; refine (fold_any _ _ (by omega)).mono ?_; rintro e w1 ⟨rfl, hw1⟩; (first | replace hW := nextB hW hw1 | replace hW := nextA hW hw1 | replace hW := nextB hW.drew hw1 | replace hW := nextAA hW hw1 | replace hW := nextAD hW hw1); clear hw1)
  refine (HC.out _ (hM.below hW)).mono ?_; rintro e w1 ⟨rfl, hw⟩; obtain rfl : _ = w1 := hw.symm
  go_wp2
  go_ret
  exact ⟨rfl, hW⟩
theorem prefix_take (sub l : List UInt8) : sub.isPrefixOf l = (l.take sub.length == sub) := by
  rw [Bool.eq_iff_iff, List.isPrefixOf_iff_prefix, beq_iff_eq, List.prefix_iff_eq_take]
  exact ⟨fun h => h.symm, fun h => h.symm⟩
theorem occ_at (s sub : ByteArray) (k : Nat) : Lib.occAt s.toList sub.toList k = ((s.extract k (k + sub.size)).toList == sub.toList) := by
  unfold Lib.occAt
  rw [prefix_take, extract_toList, tl_len]
def RIndexEnd (v : Int) (w : World) (e : Ending) (w' : World) : Prop := e = .returned (.int .i64 v) ∧ w = w'
theorem rindex_any (s sub : ByteArray) (w : World) (hs : s.size ≤ 100000) (hu : sub.size ≤ 100000) : Calls Tryd.prog 28 #[.string s, .string sub, .int .i64 0] w (RIndexEnd (Lib.index s.toList sub.toList) w) := by
  have HH : Hid (∀ k : Nat, k ≤ s.size → Lib.occAt s.toList sub.toList k = true → (∀ j, j < k → Lib.occAt s.toList sub.toList j = false) → Lib.index s.toList sub.toList = k) := fun k hk h1 h2 => Lib.index_first (by rw [tl_len]; exact hk) h1 h2
  have HN : Hid (∀ k : Nat, s.size < k + sub.size → (∀ j, j < k → Lib.occAt s.toList sub.toList j = false) → Lib.index s.toList sub.toList = -1) := fun k hk h2 => Lib.index_none fun j hj => by
    by_cases e : j < k
    · exact h2 j e
    · cases h : Lib.occAt s.toList sub.toList j with
      | false => rfl
      | true =>
        rw [tl_len] at hj
        rcases Lib.occAt_room h with h1 | h1
        · rw [tl_len, tl_len] at h1; omega
        · have : sub.size = 0 := by rw [← tl_len, h1]; rfl
          omega
  obtain ⟨V, hV⟩ : ∃ V, V = Lib.index s.toList sub.toList := ⟨_, rfl⟩
  rw [← hV] at HH HN ⊢
  clear hV
  go_enter Tryd.func28, Tryd.ntmps28
  go_wp2
  go_loop [7] (fun i => ∃ k : Nat, k ≤ s.size + 1 ∧ i = .int .i64 k ∧ Hid (∀ j, j < k → Lib.occAt s.toList sub.toList j = false)) (fun i => s.size + 1 - (intOf i).toNat)
  case atStart => exact ⟨0, by omega, rfl, fun j hj => absurd hj (by omega)⟩
  case round =>
    obtain ⟨k, hk, rfl, hd⟩ := hrel
    have k0 : IntKind.i64.wrap ((k : Int) + sub.size) = (k : Int) + sub.size := IntWalk.i64_in _ (by omega)
    have k4 : ((k : Int) + sub.size).toNat = k + sub.size := by omega
    by_cases hlt : k + sub.size ≤ s.size
    · have hlt' : (k : Int) + sub.size ≤ s.size := by omega
      cases hc : ((s.extract k (k + sub.size)).toList == sub.toList) with
      | true =>
        have HZ := Lib.hid (HH.out k (by omega) (by rw [occ_at]; exact hc) hd.out)
        go_wp2
        go_ret
        exact ⟨by rw [HZ.out]; rfl, rfl⟩
      | false =>
        have HZ : Hid (Lib.occAt s.toList sub.toList k = false) := by show _ = _; rw [occ_at]; exact hc
        go_wp2
        go_round
        case rel => exact ⟨k + 1, by omega, by go_num, fun j hj => by
          by_cases e : j < k
          · exact hd.out j e
          · obtain rfl : j = k := by omega
            exact HZ.out⟩
        case measure => simp [intOf]; omega
    · have hlt' : ¬ (k : Int) + sub.size ≤ s.size := by omega
      have HZ := Lib.hid (HN.out k (by omega) hd.out)
      go_wp2
      go_ret
      exact ⟨by rw [HZ.out]; rfl, rfl⟩
theorem rin_any (s sub : ByteArray) (w : World) (hs : s.size ≤ 10000) (hu : sub.size ≤ 10000) : Calls Tryd.prog 23 #[.string s, .string sub] w fun e w' => e = .returned (.bool (inB s sub)) ∧ Below w.heap.size w w' := by
  have hW := Below.refl w.heap.size w
  have z1 := foldS_size s
  have z2 := foldS_size sub
  obtain ⟨V, hV⟩ : ∃ V, V = Lib.index (foldS s).toList (foldS sub).toList := ⟨_, rfl⟩
  have HC : Hid (∀ w, Calls Tryd.prog 28 #[.string (foldS s), .string (foldS sub), .int .i64 0] w fun e w' => e = .returned (.int .i64 V) ∧ w = w') := fun w => by
    rw [hV]; exact rindex_any (foldS s) (foldS sub) w (by omega) (by omega)
  have hv : inB s sub = decide (0 ≤ V) := by unfold inB Lib.contains; rw [hV]
  rw [hv]
  clear hv hV
  go_enter Tryd.func23, Tryd.ntmps23
  go_wp2_with (go_at_call 19; refine (rfold_any _ _ (by omega)).mono ?_; rintro e w1 ⟨rfl, hw1⟩; (first | replace hW := nextB hW hw1 | replace hW := nextA hW hw1 | replace hW := nextB hW.drew hw1 | replace hW := nextAA hW hw1 | replace hW := nextAD hW hw1); clear hw1)
  refine (HC.out _).mono ?_; rintro e w1 ⟨rfl, hw⟩; obtain rfl : _ = w1 := hw
  go_wp2
  go_ret
  exact ⟨rfl, hW⟩
end Go.Proofs.YtejodjgeamaejaaDoor
