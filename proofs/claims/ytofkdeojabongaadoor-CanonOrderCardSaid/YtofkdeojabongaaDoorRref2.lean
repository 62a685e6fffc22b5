/- The walk of the reference's right: an array. -/
import Derived.Test.YtofkdeojabongaaDoorRref1
namespace Go.Proofs.YtofkdeojabongaaDoor
open Go.RowKit Go.PlainAid
set_option linter.unusedVariables false
set_option linter.unusedSimpArgs false
set_option maxRecDepth 100000 in
set_option maxHeartbeats 3000000 in
theorem rright_arr (k num : Int) (t : ByteArray) (ks : List ByteArray) (ns : List Nd) (A A2 : Option Addr) (ck cc : Nat) (xs : List Value) (w : World) (B : Nat) (deep : Int)
    (hks : Reads w B 1 A ks.length (ks.map Value.string)) (hxs : Reads w B 5 A2 ns.length xs) (hns : NdsIs w B ns xs) (ht : t.size ≤ 9223372036854775807) (hsz : ∀ s ∈ ks, s.size ≤ 9223372036854775807) (hk1 : ks.length ≤ 9223372036854775807) (hk2 : ns.length ≤ 9223372036854775807)
    (hB : B ≤ w.heap.size) (d0 : 0 ≤ deep) (d1 : deep ≤ 24) (HIH : Hid (RrightHyp B ns)) (hk : k = 6) :
    Calls Tryd.prog 27 #[.agg #[.int .i64 k, .int .i64 num, .string t, .slice A ks.length ck, .slice A2 ns.length cc], .int .i64 deep] w (BoolBel (rightD (.mk k num t ks ns) deep) w) := by
  have hW := Below.refl w.heap.size w
  have HV : Hid (_ = _) := rightD_eq k num t ks ns deep
  have HVC : Hid (∀ w' : World, Calls Tryd.prog 48 #[.string t] w' fun e w'' => e = .returned (.bool (validB t.toList)) ∧ Below w'.heap.size w' w'') := fun w' => rvalid_any t w' ht
  have hA : Below w.heap.size w (w.alloc (.cells #[.int .i64 k, .int .i64 num, .string t, .slice A ks.length ck, .slice A2 ns.length cc] 25)) := hW.alloc hW.size _
  generalize rightD (.mk k num t ks ns) deep = V at *
  subst hk
  by_cases hn : num = 0
  case neg =>
    have HE : Hid (V = false) := by show _ = _; rw [HV.out]; simp [bareF, hn]
    clear HV hks hxs hns hsz HIH
    go_enter Tryd.func27, Tryd.ntmps27
    go_wp2_with fail
    go_ret
    exact ⟨by rw [HE.out]; rfl, hA⟩
  subst hn
  by_cases ht0 : t = ⟨#[]⟩
  case neg =>
    have ht2 : decide (t = ⟨#[]⟩) = false := decide_eq_false ht0
    have ht3 : ¬ t.toList = [] := fun h => ht0 (by cases t with | mk d => rw [ByteArray.toList_eq] at h; simp at h; rw [h])
    have ht4 : t.toList.isEmpty = false := by simp [ht3]
    have HE : Hid (V = false) := by show _ = _; rw [HV.out]; simp [bareF, ht0]
    clear HV hks hxs hns hsz HIH
    go_enter Tryd.func27, Tryd.ntmps27
    go_wp2_with fail
    go_ret
    exact ⟨by rw [HE.out]; rfl, hA⟩
  have ht2 : decide (t = ⟨#[]⟩) = true := decide_eq_true ht0
  have ht3 : t.toList = [] := by rw [ht0, ByteArray.toList_eq]
  have ht4 : t.toList.isEmpty = true := by rw [ht3]; rfl
  have hvt : validB t.toList = true := by rw [ht3]; exact validB_nil
  rw [hvt] at HVC
  rw [ht3] at HV
  clear hvt ht0
  by_cases ha0 : 0 < ks.length
  case pos =>
    have ha2 : ks ≠ [] := fun h => by rw [h] at ha0; simp at ha0
    have HE : Hid (V = false) := by show _ = _; rw [HV.out]; simp [bareF, ha2]
    clear HV hks hxs hns hsz HIH
    go_enter Tryd.func27, Tryd.ntmps27
    go_wp2_with fail
    refine (HVC.out _).mono ?_; rintro e w1 ⟨rfl, hw1⟩
    have hW1 := hA.trans (hw1.mono (by simp))
    have c0 : w1.cell? ⟨w.heap.size, 0, none⟩ = some (.int .i64 6) := (hw1.cell (by simp)).trans (by simp [go_sem])
    have c1 : w1.cell? ⟨w.heap.size, 1, none⟩ = some (.int .i64 0) := (hw1.cell (by simp)).trans (by simp [go_sem])
    have c2 : w1.cell? ⟨w.heap.size, 2, none⟩ = some (.string t) := (hw1.cell (by simp)).trans (by simp [go_sem])
    have c3 : w1.cell? ⟨w.heap.size, 3, none⟩ = some (.slice A ks.length ck) := (hw1.cell (by simp)).trans (by simp [go_sem])
    have c4 : w1.cell? ⟨w.heap.size, 4, none⟩ = some (.slice A2 ns.length cc) := (hw1.cell (by simp)).trans (by simp [go_sem])
    go_wp2_with fail
    go_ret
    exact ⟨by rw [HE.out]; rfl, hW1⟩
  have ha3 : ks.length < 1 := by omega
  have HAN : Hid (ks = []) := List.eq_nil_of_length_eq_zero (by omega)
  clear ha0
  by_cases hd : 24 ≤ deep
  case pos =>
    have HE : Hid (V = false) := by show _ = _; rw [HV.out]; (have hd' : ¬ deep < 24 := by omega); simp [hd']
    clear HV hks hxs hns hsz HIH
    go_enter Tryd.func27, Tryd.ntmps27
    go_wp2_with fail
    refine (HVC.out _).mono ?_; rintro e w1 ⟨rfl, hw1⟩
    have hW1 := hA.trans (hw1.mono (by simp))
    have c0 : w1.cell? ⟨w.heap.size, 0, none⟩ = some (.int .i64 6) := (hw1.cell (by simp)).trans (by simp [go_sem])
    have c1 : w1.cell? ⟨w.heap.size, 1, none⟩ = some (.int .i64 0) := (hw1.cell (by simp)).trans (by simp [go_sem])
    have c2 : w1.cell? ⟨w.heap.size, 2, none⟩ = some (.string t) := (hw1.cell (by simp)).trans (by simp [go_sem])
    have c3 : w1.cell? ⟨w.heap.size, 3, none⟩ = some (.slice A ks.length ck) := (hw1.cell (by simp)).trans (by simp [go_sem])
    have c4 : w1.cell? ⟨w.heap.size, 4, none⟩ = some (.slice A2 ns.length cc) := (hw1.cell (by simp)).trans (by simp [go_sem])
    go_wp2_with fail
    go_ret
    exact ⟨by rw [HE.out]; rfl, hW1⟩
  have hd' : deep < 24 := by omega
  have HV2 : Hid (V = (rightLD (ns.drop 0) (deep + 1) && keysB ks)) := by show _ = _; rw [HV.out, HAN.out]; simp [bareF, ht2, hd', keysB_nil]
  clear HV hd
  have HXS := Lib.hid hxs
  have HKS := Lib.hid hks
  have HNS := Lib.hid hns
  have HSZ := Lib.hid hsz
  have HD : Hid (0 ≤ deep ∧ deep < 24) := ⟨d0, hd'⟩
  clear hks hxs hns hsz
  go_enter Tryd.func27, Tryd.ntmps27
  go_wp2_with fail
  refine (HVC.out _).mono ?_; rintro e w1 ⟨rfl, hw1⟩
  have hx1 : Blk w1 w.heap.size 25 #[.int .i64 6, .int .i64 0, .string t, .slice A ks.length ck, .slice A2 ns.length cc] := (Blk.new w _ _).below hw1 (by simp)
  have hz1 : w.heap.size < w1.heap.size := by have := hw1.size; simp at this; omega
  have hW1 := hA.trans (hw1.mono (by simp))
  have c0 : w1.cell? ⟨w.heap.size, 0, none⟩ = some (.int .i64 6) := (hw1.cell (by simp)).trans (by simp [go_sem])
  have c1 : w1.cell? ⟨w.heap.size, 1, none⟩ = some (.int .i64 0) := (hw1.cell (by simp)).trans (by simp [go_sem])
  have c2 : w1.cell? ⟨w.heap.size, 2, none⟩ = some (.string t) := (hw1.cell (by simp)).trans (by simp [go_sem])
  have c3 : w1.cell? ⟨w.heap.size, 3, none⟩ = some (.slice A ks.length ck) := (hw1.cell (by simp)).trans (by simp [go_sem])
  have c4 : w1.cell? ⟨w.heap.size, 4, none⟩ = some (.slice A2 ns.length cc) := (hw1.cell (by simp)).trans (by simp [go_sem])
  go_wp2_with fail
  have HX1 := Lib.hid hx1
  clear hx1 c0 c1 c2 c3 c4 hw1 d0 d1
  go_loopw [5] (fun t5 wr => ∃ i : Nat, i ≤ ns.length ∧ t5 = .int .i64 i ∧ Hid (V = (rightLD (ns.drop i) (deep + 1) && keysB ks)) ∧ Hid (Blk wr w.heap.size 25 #[.int .i64 6, .int .i64 0, .string t, .slice A ks.length ck, .slice A2 ns.length cc]) ∧ Hid (Below w.heap.size w wr) ∧ w.heap.size < wr.heap.size) (fun t5 _ => ns.length - (intOf t5).toNat)
  case atStart => exact ⟨0, by omega, rfl, HV2, HX1, hW1, hz1⟩
  case round =>
    clear HX1 hW1 hz1
    obtain ⟨i, hi, rfl, hv, hx, hW, hz⟩ := hrel
    obtain ⟨wo, rfl⟩ : ∃ wo : World, wo = wr := ⟨_, rfl⟩
    have c3 : wo.cell? ⟨w.heap.size, 3, none⟩ = some (.slice A ks.length ck) := hx.out.cell 3
    have c4 : wo.cell? ⟨w.heap.size, 4, none⟩ = some (.slice A2 ns.length cc) := hx.out.cell 4
    by_cases hlt : i < ns.length
    · have hkeep : ∀ p : Addr, p.block < B → wo.cell? p = w.cell? p := fun p hp => hW.out.cell (by omega)
      obtain ⟨ad, n, v0, v1, v2, v3, v4, rfl, hadb, hni, hnd, e0, e1, e2, e3, e4⟩ := (HXS.out.keep hkeep).nd (NdsIs.keep hkeep _ _ HNS.out) hlt
      obtain ⟨x0, x1, x2, x3, x4, x5, x6, x7, x8, rfl, rfl, rfl, rfl, rfl⟩ := hnd.form
      have HST := Lib.hid (rightLD_at ns i n (deep + 1) hni)
      have HC : Hid (RrightC #[.int .i64 x0, .int .i64 x1, .string x2, .slice x3 x4 x5, .slice x6 x7 x8] (deep + 1) (rightD n (deep + 1)) wo) := HIH.out i n [.int .i64 x0, .int .i64 x1, .string x2, .slice x3 x4 x5, .slice x6 x7 x8] wo (deep + 1) hni hnd (by omega) (by have := HD.out; omega) (by have := HD.out; omega)
      have i0 : deep + 1 ≤ 25 := by have := HD.out; omega
      have i1 : 0 ≤ deep := HD.out.1
      clear hni hnd hkeep
      generalize rightD n (deep + 1) = b at *
      go_wp2_with fail
      refine (HC.out : Calls _ _ _ _ _).mono ?_; rintro e w2 ⟨rfl, hw2⟩
      have hW2 := hW.out.trans (hw2.mono (by omega))
      cases b with
      | false =>
        have HE : Hid (V = false) := by show _ = _; rw [hv.out, HST.out]; rfl
        go_wp2_with fail
        go_ret
        exact ⟨by rw [HE.out]; rfl, hW2⟩
      | true =>
        have HE : Hid (V = (rightLD (ns.drop (i + 1)) (deep + 1) && keysB ks)) := by show _ = _; rw [hv.out, HST.out]; rfl
        have hx2 : Hid (Blk w2 w.heap.size 25 #[.int .i64 6, .int .i64 0, .string t, .slice A ks.length ck, .slice (some ad) ns.length cc]) := hx.out.below hw2 (by omega)
        have hz2 : w.heap.size < w2.heap.size := by have := hw2.size; omega
        have HW2 := Lib.hid hW2
        clear hW2
        go_wp2_with fail
        go_roundw
        case rel => exact ⟨i + 1, by omega, by go_num, HE, hx2, HW2, hz2⟩
        case measure => simp [intOf]; omega
    · have HE : Hid (V = keysB ks) := by
        show _ = _
        rw [hv.out, List.drop_eq_nil_of_le (show ns.length ≤ i by omega), rightLD_nil]; rfl
      go_wp2_with fail
      clear c3 c4
      go_loopw [6] (fun t6 wr => ∃ i : Nat, i ≤ ks.length ∧ t6 = .int .i64 i ∧ Hid ((ks.take i).Nodup ∧ ∀ s ∈ ks.take i, validB s.toList = true) ∧ Hid (Blk wr w.heap.size 25 #[.int .i64 6, .int .i64 0, .string t, .slice A ks.length ck, .slice A2 ns.length cc]) ∧ Hid (Below w.heap.size w wr) ∧ w.heap.size < wr.heap.size) (fun t6 _ => ks.length - (intOf t6).toNat)
      case atStart => exact ⟨0, by omega, rfl, by constructor <;> simp, hx, hW, hz⟩
      case round =>
        clear hx hW hz
        obtain ⟨i, hi, rfl, hgd, hx, hW, hz⟩ := hrel
        obtain ⟨wo, rfl⟩ : ∃ wo : World, wo = wr := ⟨_, rfl⟩
        have c3 : wo.cell? ⟨w.heap.size, 3, none⟩ = some (.slice A ks.length ck) := hx.out.cell 3
        by_cases hlt : i < ks.length
        · exact absurd hlt (by omega)
        · have HF : Hid (V = true) := by show _ = _; rw [HE.out]; exact keysB_all (show i = ks.length by omega) hgd.out
          go_wp2_with fail
          go_ret
          exact ⟨by rw [HF.out]; rfl, hW.out⟩
end Go.Proofs.YtofkdeojabongaaDoor
