/- UtfMade: its walk. -/
import Derived.Test.YtiaikpbnjhhiaaaUtfL3
import Derived.OpenShut
namespace Go.Proofs.Ytiaikpbnjhhiaaa
open Go.RowKit Go.PlainAid
set_option linter.unusedVariables false
set_option linter.unusedSimpArgs false
def strOf (rs : List Int) : ByteArray := ⟨((rs.map putB).flatten).toArray⟩
theorem strOf_toList (rs : List Int) : (strOf rs).toList = (rs.map putB).flatten := by rw [ByteArray.toList_eq]; simp [strOf]
theorem ba_ext {a b : ByteArray} (h : a.toList = b.toList) : a = b := by
  rw [ByteArray.toList_eq, ByteArray.toList_eq] at h
  exact ByteArray.ext (Array.toList_inj.1 h)
theorem strOf_snoc (rs : List Int) (r : Int) : strOf rs ++ put r = strOf (rs ++ [r]) := by
  apply ba_ext
  rw [app_toList, strOf_toList, strOf_toList, put_toList]
  simp
theorem strOf_size (rs : List Int) : (strOf rs).size ≤ 4 * rs.length := by
  rw [← toList_len, strOf_toList]
  induction rs with
  | nil => simp
  | cons r rs ih =>
    have := putB_len r
    simp only [List.map_cons, List.flatten_cons, List.length_append, List.length_cons]
    omega
/-- what UtfMade has gone through: the code points that have bytes -/
def goods (zs : List Int) (i : Nat) : List Int := ((zs.take i).map (· % 1114112)).filter fun r => !(putB r).isEmpty
theorem goods_good (zs : List Int) (i : Nat) : ∀ r ∈ goods zs i, GoodP r := by
  intro r hr
  unfold goods at hr
  have := (List.mem_filter.1 hr).2
  apply (good_iff r).1
  intro e
  rw [e] at this
  simp at this
theorem goods_len (zs : List Int) (i : Nat) : (goods zs i).length ≤ i := by
  unfold goods
  refine Nat.le_trans (List.length_filter_le _ _) ?_
  simp
  omega
theorem goods_cut (zs : List Int) (i : Nat) (h : i < zs.length) : goods zs (i + 1) = goods zs i ++ [zs.getD i 0 % 1114112].filter fun r => !(putB r).isEmpty := by
  unfold goods
  rw [List.take_succ_eq_append_getElem h, List.map_append, List.filter_append]
  have e : zs.getD i 0 = zs[i] := by simp [List.getD, h]
  rw [e]
  rfl
theorem goods_same (zs : List Int) (i m : Nat) (z : Int) (h : i < zs.length) (hz : zs.getD i 0 = z) (hg : ¬ GoodP (z % 1114112)) : goods zs (i + 1) = goods zs i := by
  have : putB (z % 1114112) = [] := by
    by_cases e : putB (z % 1114112) = []
    · exact e
    · exact absurd ((good_iff _).1 e) hg
  rw [goods_cut zs i h, hz]
  simp [this]
theorem goods_more (zs : List Int) (i m : Nat) (z : Int) (h : i < zs.length) (hz : zs.getD i 0 = z) (hg : GoodP (z % 1114112)) : goods zs (i + 1) = goods zs i ++ [z % 1114112] := by
  have := (good_iff _).2 hg
  rw [goods_cut zs i h, hz]
  simp [this]
theorem made_end (zs : List Int) (n : Int) (i len : Nat) (hi : i = len) : (cut (strOf (goods zs i)) n).toList = (strOf ((goods zs i).take n.toNat)).toList ∧ (cut (strOf (goods zs i)) (len : Nat)).toList = (strOf (goods zs i)).toList ∧ (cut (strOf (goods zs i)) (-1)).toList = [] ∧ validB (strOf (goods zs i)).toList = true := by
  subst hi
  have hg := goods_good zs i
  have hl := goods_len zs i
  have hx : ∀ m : Nat, (strOf (goods zs i)).extract 0 m = (strOf (goods zs i)).extract 0 (0 + m) := fun m => by rw [Nat.zero_add]
  refine ⟨?_, ?_, ?_, ?_⟩
  · unfold cut
    rw [hx, extract_toList, strOf_toList, List.drop_zero]
    by_cases h : n.toNat ≤ (goods zs i).length
    · have := cutL_flat (goods zs i) hg [] n.toNat h
      rw [List.append_nil] at this
      rw [this, strOf_toList]
      have e : ((goods zs i).map putB).flatten = (((goods zs i).take n.toNat).map putB).flatten ++ (((goods zs i).drop n.toNat).map putB).flatten := by
        rw [← List.flatten_append, ← List.map_append, List.take_append_drop]
      rw [e, List.take_left]
    · have := cutL_all (goods zs i) hg [] rfl n.toNat (by omega)
      rw [List.append_nil] at this
      rw [this, List.take_length, strOf_toList, List.take_of_length_le (by omega)]
  · unfold cut
    have := cutL_all (goods zs i) hg [] rfl i hl
    rw [List.append_nil] at this
    rw [hx, extract_toList, strOf_toList, List.drop_zero, Int.toNat_natCast, this, List.take_length]
  · have : cut (strOf (goods zs i)) (-1) = (strOf (goods zs i)).extract 0 (0 + 0) := rfl
    rw [this, extract_toList]; simp
  · rw [strOf_toList, validB_iff]; exact flat_valid _ hg
set_option maxHeartbeats 800000 in
theorem made_core (a0 : Option Addr) (len cap : Nat) (zs : List Int) (m : Nat) (w : World) (hm : m < 256) (hl2 : len ≤ zs.length) (hl : len ≤ 200)
    (hA : len = 0 ∨ ∃ b off, a0 = some ⟨b, off, none⟩ ∧ b < w.heap.size ∧ ∀ i, i < len → w.cell? ⟨b, off + i, none⟩ = some (.int .u32 (zs.getD i 0)) ∧ (Lit.int .u32 (zs.getD i 0)).wf = true) :
    Calls Try.prog 6 #[.slice a0 len cap, .int .u8 (m : Int)] w fun e w' => e = .returned (.bool true) ∧ Below w.heap.size w w' := by
  rcases hA with rfl | ⟨b, off, rfl, hbl, hc⟩
  · have hW := Below.refl w.heap.size w
    have z1 : (cut ⟨#[]⟩ (m : Int)).toList = [] := by unfold cut; simp [ByteArray.toList_eq]
    have z2 : (cut ⟨#[]⟩ 0).toList = [] := by unfold cut; simp [ByteArray.toList_eq]
    have z3 : (cut ⟨#[]⟩ (-1)).toList = [] := by unfold cut; simp [ByteArray.toList_eq]
    have z4 : validB (⟨#[]⟩ : ByteArray).toList = true := by rw [ByteArray.toList_eq]; exact validB_nil
    have z5 : (⟨#[]⟩ : ByteArray).toList = [] := by rw [ByteArray.toList_eq]
    have z6 := validB_nil
    go_enter Try.func6, Try.ntmps6
    go_wp2
    go_loopw [5, 6, 7, 8] (fun s t k i wr => s = .string ⟨#[]⟩ ∧ t = .string ⟨#[]⟩ ∧ k = .int .i64 0 ∧ i = .int .i64 0 ∧ Below w.heap.size w wr) (fun _ _ _ _ _ => 0)
    case atStart => exact ⟨rfl, rfl, rfl, rfl, hW⟩
    case round =>
      obtain ⟨rfl, rfl, rfl, rfl, hW⟩ := hrel
      go_wp2_with (first
        | (go_at_call 10; refine (awake2_any _).mono ?_; rintro e w1 ⟨rfl, hw1⟩; (first | replace hW := nextB hW hw1 | replace hW := nextA hW hw1 | replace hW := nextB hW.drew hw1 | replace hW := nextAA hW hw1); clear hw1)
        | (go_at_call 16; refine (cut_any _ _ _ (by decide) (by omega)).mono ?_; rintro e w1 ⟨rfl, hw1⟩; (first | replace hW := nextB hW hw1 | replace hW := nextA hW hw1 | replace hW := nextB hW.drew hw1 | replace hW := nextAA hW hw1); clear hw1)
        | (go_at_call 12; refine (valid_any _ _ (by decide)).mono ?_; rintro e w1 ⟨rfl, hw1⟩; (first | replace hW := nextB hW hw1 | replace hW := nextA hW hw1 | replace hW := nextB hW.drew hw1 | replace hW := nextAA hW hw1); clear hw1))
      go_ret
      exact ⟨rfl, hW⟩
  · have hW := Below.refl w.heap.size w
    have HC := Lib.hid hc
    clear hc
    go_enter Try.func6, Try.ntmps6
    go_wp2
    go_loopw [5, 6, 7, 8] (fun s t k i wr => ∃ (S T : ByteArray) (kk i' : Nat), i' ≤ len ∧ s = .string S ∧ t = .string T ∧ k = .int .i64 kk ∧ i = .int .i64 i' ∧ Hid (S = strOf (goods zs i')) ∧ Hid (T = strOf ((goods zs i').take m)) ∧ Hid (kk = min m (goods zs i').length) ∧ S.size ≤ 4 * i' ∧ T.size ≤ 4 * i' ∧ Below w.heap.size w wr) (fun _ _ _ i _ => len - (intOf i).toNat)
    case atStart => exact ⟨_, _, 0, 0, by omega, rfl, rfl, rfl, rfl, rfl, by show _ = _; unfold goods; simp [strOf], by show _ = _; unfold goods; simp, by decide, by decide, hW⟩
    case round =>
      obtain ⟨S, T, kk, i, hi, rfl, rfl, rfl, rfl, hS, hT, hK, hs1, ht1, hW⟩ := hrel
      have hgl := goods_len zs i
      by_cases hlt : i < len
      · obtain ⟨z, hz⟩ : ∃ z, zs.getD i 0 = z := ⟨_, rfl⟩
        obtain ⟨hc1, hc2⟩ := HC.out i hlt
        rw [hz] at hc1 hc2
        obtain ⟨z0, z1⟩ := u32_rng hc2
        have hc3 : wr.cell? ⟨b, off + i, none⟩ = some (.int .u32 z) := by rw [hW.cell hbl]; exact hc1
        have p4 : (put (z % 1114112)).size ≤ 4 := by rw [put_size]; exact putB_len _
        clear hc1 hc2
        by_cases hg : GoodP (z % 1114112)
        · have f1 := put_ne_of _ hg
          have f2 := isEmpty_not f1
          have hG := goods_more zs i m z (by omega) hz hg
          have n1 : Hid (S ++ put (z % 1114112) = strOf (goods zs (i + 1))) := by show _ = _; rw [hS.out, strOf_snoc, hG]
          by_cases hk : (goods zs i).length < m
          · have k1 : kk < m := by have := hK.out; omega
            have n2 : Hid (T ++ put (z % 1114112) = strOf ((goods zs (i + 1)).take m)) := by
              show _ = _
              rw [hT.out, List.take_of_length_le (by omega), hG, strOf_snoc, List.take_of_length_le (by rw [List.length_append]; simp; omega)]
            have n3 : Hid (kk + 1 = min m (goods zs (i + 1)).length) := by
              show _ = _
              rw [hG, List.length_append]; simp; have := hK.out; omega
            clear hz hg hG hgl hk hS hT hK
            go_wp2_with (go_at_call 9; refine (put_any _ _).mono ?_; rintro e w1 ⟨rfl, hw1⟩; (first | replace hW := nextB hW hw1 | replace hW := nextA hW hw1 | replace hW := nextB hW.drew hw1 | replace hW := nextAA hW hw1); clear hw1)
            go_roundw
            case rel => exact ⟨_, _, kk + 1, i + 1, by omega, rfl, rfl, by go_num, by go_num, n1, n2, n3, by rw [ByteArray.size_append]; omega, by rw [ByteArray.size_append]; omega, hW⟩
            case measure => simp [intOf]; omega
          · have k1 : ¬ kk < m := by have := hK.out; omega
            have n2 : Hid (T = strOf ((goods zs (i + 1)).take m)) := by
              show _ = _
              rw [hT.out, hG, List.take_append_of_le_length (by omega)]
            have n3 : Hid (kk = min m (goods zs (i + 1)).length) := by
              show _ = _
              rw [hG, List.length_append]; simp; have := hK.out; omega
            clear hz hg hG hgl hk hS hT hK
            go_wp2_with (go_at_call 9; refine (put_any _ _).mono ?_; rintro e w1 ⟨rfl, hw1⟩; (first | replace hW := nextB hW hw1 | replace hW := nextA hW hw1 | replace hW := nextB hW.drew hw1 | replace hW := nextAA hW hw1); clear hw1)
            go_roundw
            case rel => exact ⟨_, _, kk, i + 1, by omega, rfl, rfl, by go_num, by go_num, n1, n2, n3, by rw [ByteArray.size_append]; omega, by omega, hW⟩
            case measure => simp [intOf]; omega
        · have f1 := put_nil_of _ hg
          have f2 := isEmpty_of f1
          have hG := goods_same zs i m z (by omega) hz hg
          have e0 : put (z % 1114112) = ⟨#[]⟩ := ba_ext (by rw [f1, ByteArray.toList_eq])
          have n1 : Hid (S ++ put (z % 1114112) = strOf (goods zs (i + 1))) := by
            show _ = _
            rw [e0, hG, ← hS.out]
            apply ba_ext
            rw [app_toList]
            simp [ByteArray.toList_eq]
          have n2 : Hid (T = strOf ((goods zs (i + 1)).take m)) := by show _ = _; rw [hG]; exact hT.out
          have n3 : Hid (kk = min m (goods zs (i + 1)).length) := by show _ = _; rw [hG]; exact hK.out
          clear hz hg hG hgl hS hT hK e0
          go_wp2_with (go_at_call 9; refine (put_any _ _).mono ?_; rintro e w1 ⟨rfl, hw1⟩; (first | replace hW := nextB hW hw1 | replace hW := nextA hW hw1 | replace hW := nextB hW.drew hw1 | replace hW := nextAA hW hw1); clear hw1)
          go_roundw
          case rel => exact ⟨_, _, kk, i + 1, by omega, rfl, rfl, by go_num, by go_num, n1, n2, n3, by rw [ByteArray.size_append]; omega, by omega, hW⟩
          case measure => simp [intOf]; omega
      · obtain ⟨y1, y2, y3, y4⟩ := made_end zs m i len (by omega)
        rw [← hS.out] at y1 y2 y3 y4
        rw [Int.toNat_natCast, ← hT.out] at y1
        clear hS hT hK hgl
        go_wp2_with (first
          | (go_at_call 10; refine (awake2_any _).mono ?_; rintro e w1 ⟨rfl, hw1⟩; (first | replace hW := nextB hW hw1 | replace hW := nextA hW hw1 | replace hW := nextB hW.drew hw1 | replace hW := nextAA hW hw1); clear hw1)
          | (go_at_call 16; refine (cut_any _ _ _ (by omega) (by omega)).mono ?_; rintro e w1 ⟨rfl, hw1⟩; (first | replace hW := nextB hW hw1 | replace hW := nextA hW hw1 | replace hW := nextB hW.drew hw1 | replace hW := nextAA hW hw1); clear hw1)
          | (go_at_call 12; refine (valid_any _ _ (by omega)).mono ?_; rintro e w1 ⟨rfl, hw1⟩; (first | replace hW := nextB hW hw1 | replace hW := nextA hW hw1 | replace hW := nextB hW.drew hw1 | replace hW := nextAA hW hw1); clear hw1))
        go_ret
        exact ⟨rfl, hW⟩
set_option maxRecDepth 100000 in
theorem made_walk (a0 : Option Addr) (len cap : Nat) (zs : List Int) (n : Int) (w : World) (w0 : IsRow .u32 w a0 len cap zs) (w1 : (Lit.int .u8 n).wf = true) :
    Calls Try.prog 6 #[.slice a0 len cap, .int .u8 n] w fun e w' => e = .returned (.bool true) ∧ Below w.heap.size w w' := by
  obtain ⟨n0, n1⟩ := u8_rng w1
  clear w1
  obtain ⟨m, rfl⟩ := Int.eq_ofNat_of_zero_le n0
  by_cases hl : len ≤ 200
  · refine made_core a0 len cap zs m w (by omega) ?_ hl ?_
    · rcases w0 with ⟨_, rfl, _, _⟩ | ⟨x, _, h1, _, h2, _⟩ <;> omega
    · by_cases h0 : len = 0
      · exact Or.inl h0
      · right
        rcases w0 with ⟨_, rfl, _, _⟩ | ⟨x, rfl, h1, h2, h3, h4, h5⟩
        · omega
        · obtain ⟨b, off, rfl, h6⟩ := ints_at h4 (by omega)
          refine ⟨b, off, rfl, World.block_lt_of_cell? _ _ (h6 0 (by omega)), fun i hi => ⟨h6 i (by omega), h5 _ ?_⟩⟩
          simp [List.getD, show i < zs.length by omega]
  · have hW := Below.refl w.heap.size w
    have hm : len ≤ 9223372036854775807 := by
      unfold IsRow maxLen at w0
      rcases w0 with ⟨_, rfl, _, _⟩ | ⟨x, _, h1, h2, h3, _⟩ <;> omega
    clear w0
    go_enter Try.func6, Try.ntmps6
    go_wp2_with (go_at_call 10; refine (awake2_any _).mono ?_; rintro e w1 ⟨rfl, hw1⟩; (first | replace hW := nextB hW hw1 | replace hW := nextA hW hw1 | replace hW := nextB hW.drew hw1 | replace hW := nextAA hW hw1); clear hw1)
    go_ret
    exact ⟨rfl, hW⟩
end Go.Proofs.Ytiaikpbnjhhiaaa
