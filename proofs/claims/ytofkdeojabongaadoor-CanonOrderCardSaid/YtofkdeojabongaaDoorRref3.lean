/- The walk of the reference's right: an object. -/
import Derived.Test.YtofkdeojabongaaDoorRref1
namespace Go.Proofs.YtofkdeojabongaaDoor
open Go.RowKit Go.PlainAid
set_option linter.unusedVariables false
set_option linter.unusedSimpArgs false
set_option maxRecDepth 100000 in
set_option maxHeartbeats 3000000 in
theorem rright_obj (k num : Int) (t : ByteArray) (ks : List ByteArray) (ns : List Nd) (A A2 : Option Addr) (ck cc : Nat) (xs : List Value) (w : World) (B : Nat) (deep : Int)
    (hks : Reads w B 1 A ks.length (ks.map Value.string)) (hxs : Reads w B 5 A2 ns.length xs) (hns : NdsIs w B ns xs) (ht : t.size ≤ 9223372036854775807) (hsz : ∀ s ∈ ks, s.size ≤ 9223372036854775807) (hk1 : ks.length ≤ 9223372036854775807) (hk2 : ns.length ≤ 9223372036854775807)
    (hB : B ≤ w.heap.size) (d0 : 0 ≤ deep) (d1 : deep ≤ 24) (HIH : Hid (RrightHyp B ns)) (hk : k = 7) :
    Calls Tryd.prog 27 #[.agg #[.int .i64 k, .int .i64 num, .string t, .slice A ks.length ck, .slice A2 ns.length cc], .int .i64 deep] w (BoolBel (rightD (.mk k num t ks ns) deep) w) := by
  have hW := Below.refl w.heap.size w
  have HV : Hid (_ = _) := rightD_eq k num t ks ns deep
  have HVC : Hid (∀ w' : World, Calls Tryd.prog 48 #[.string t] w' fun e w'' => e = .returned (.bool (validB t.toList)) ∧ Below w'.heap.size w' w'') := fun w' => rvalid_any t w' ht
  have hA : Below w.heap.size w (w.alloc (.cells #[.int .i64 k, .int .i64 num, .string t, .slice A ks.length ck, .slice A2 ns.length cc] 25)) := hW.alloc hW.size _
  generalize rightD (.mk k num t ks ns) deep = V at *
  subst hk
  by_cases hn : num = 0
  case neg =>
    have HE : Hid (V = false) := by show _ = _; rw [HV.out]; simp [bareF, hn]
    clear HV hks hxs hns hsz HIH
    go_enter Tryd.func27, Tryd.ntmps27
    go_wp2_with fail
    go_ret
    exact ⟨by rw [HE.out]; rfl, hA⟩
  subst hn
  by_cases ht0 : t = ⟨#[]⟩
  case neg =>
    have ht2 : decide (t = ⟨#[]⟩) = false := decide_eq_false ht0
    have ht3 : ¬ t.toList = [] := fun h => ht0 (by cases t with | mk d => rw [ByteArray.toList_eq] at h; simp at h; rw [h])
    have ht4 : t.toList.isEmpty = false := by simp [ht3]
    have HE : Hid (V = false) := by show _ = _; rw [HV.out]; simp [bareF, ht0]
    clear HV hks hxs hns hsz HIH
    go_enter Tryd.func27, Tryd.ntmps27
    go_wp2_with fail
    go_ret
    exact ⟨by rw [HE.out]; rfl, hA⟩
  have ht2 : decide (t = ⟨#[]⟩) = true := decide_eq_true ht0
  have ht3 : t.toList = [] := by rw [ht0, ByteArray.toList_eq]
  have ht4 : t.toList.isEmpty = true := by rw [ht3]; rfl
  have hvt : validB t.toList = true := by rw [ht3]; exact validB_nil
  rw [hvt] at HVC
  rw [ht3] at HV
  clear hvt ht0
  by_cases hl : ks.length = ns.length
  case neg =>
    have n4 : ((ks.length : Int) != (ns.length : Int)) = true := by rw [bne_iff_ne]; omega
    have HE : Hid (V = false) := by show _ = _; rw [HV.out]; simp [hl]
    clear HV hks hxs hns hsz HIH
    go_enter Tryd.func27, Tryd.ntmps27
    go_wp2_with fail
    refine (HVC.out _).mono ?_; rintro e w1 ⟨rfl, hw1⟩
    have hW1 := hA.trans (hw1.mono (by simp))
    have c0 : w1.cell? ⟨w.heap.size, 0, none⟩ = some (.int .i64 7) := (hw1.cell (by simp)).trans (by simp [go_sem])
    have c1 : w1.cell? ⟨w.heap.size, 1, none⟩ = some (.int .i64 0) := (hw1.cell (by simp)).trans (by simp [go_sem])
    have c2 : w1.cell? ⟨w.heap.size, 2, none⟩ = some (.string t) := (hw1.cell (by simp)).trans (by simp [go_sem])
    have c3 : w1.cell? ⟨w.heap.size, 3, none⟩ = some (.slice A ks.length ck) := (hw1.cell (by simp)).trans (by simp [go_sem])
    have c4 : w1.cell? ⟨w.heap.size, 4, none⟩ = some (.slice A2 ns.length cc) := (hw1.cell (by simp)).trans (by simp [go_sem])
    go_wp2_with fail
    go_ret
    exact ⟨by rw [HE.out]; rfl, hW1⟩
  have n4 : ((ks.length : Int) != (ns.length : Int)) = false := by rw [bne_eq_false_iff_eq]; omega
  have hl2 : decide (ks.length = ns.length) = true := decide_eq_true hl
  clear hl
  by_cases hd : 24 ≤ deep
  case pos =>
    have HE : Hid (V = false) := by show _ = _; rw [HV.out]; (have hd' : ¬ deep < 24 := by omega); simp [hd']
    clear HV hks hxs hns hsz HIH
    go_enter Tryd.func27, Tryd.ntmps27
    go_wp2_with fail
    refine (HVC.out _).mono ?_; rintro e w1 ⟨rfl, hw1⟩
    have hW1 := hA.trans (hw1.mono (by simp))
    have c0 : w1.cell? ⟨w.heap.size, 0, none⟩ = some (.int .i64 7) := (hw1.cell (by simp)).trans (by simp [go_sem])
    have c1 : w1.cell? ⟨w.heap.size, 1, none⟩ = some (.int .i64 0) := (hw1.cell (by simp)).trans (by simp [go_sem])
    have c2 : w1.cell? ⟨w.heap.size, 2, none⟩ = some (.string t) := (hw1.cell (by simp)).trans (by simp [go_sem])
    have c3 : w1.cell? ⟨w.heap.size, 3, none⟩ = some (.slice A ks.length ck) := (hw1.cell (by simp)).trans (by simp [go_sem])
    have c4 : w1.cell? ⟨w.heap.size, 4, none⟩ = some (.slice A2 ns.length cc) := (hw1.cell (by simp)).trans (by simp [go_sem])
    go_wp2_with fail
    go_ret
    exact ⟨by rw [HE.out]; rfl, hW1⟩
  have hd' : deep < 24 := by omega
  have HV2 : Hid (V = (rightLD (ns.drop 0) (deep + 1) && keysB ks)) := by show _ = _; rw [HV.out]; simp [bareF, ht2, hd', hl2]; exact Bool.and_comm _ _
  clear HV hd
  have HXS := Lib.hid hxs
  have HKS := Lib.hid hks
  have HNS := Lib.hid hns
  have HSZ := Lib.hid hsz
  have HD : Hid (0 ≤ deep ∧ deep < 24) := ⟨d0, hd'⟩
  clear hks hxs hns hsz
  go_enter Tryd.func27, Tryd.ntmps27
  go_wp2_with fail
  refine (HVC.out _).mono ?_; rintro e w1 ⟨rfl, hw1⟩
  have hx1 : Blk w1 w.heap.size 25 #[.int .i64 7, .int .i64 0, .string t, .slice A ks.length ck, .slice A2 ns.length cc] := (Blk.new w _ _).below hw1 (by simp)
  have hz1 : w.heap.size < w1.heap.size := by have := hw1.size; simp at this; omega
  have hW1 := hA.trans (hw1.mono (by simp))
  have c0 : w1.cell? ⟨w.heap.size, 0, none⟩ = some (.int .i64 7) := (hw1.cell (by simp)).trans (by simp [go_sem])
  have c1 : w1.cell? ⟨w.heap.size, 1, none⟩ = some (.int .i64 0) := (hw1.cell (by simp)).trans (by simp [go_sem])
  have c2 : w1.cell? ⟨w.heap.size, 2, none⟩ = some (.string t) := (hw1.cell (by simp)).trans (by simp [go_sem])
  have c3 : w1.cell? ⟨w.heap.size, 3, none⟩ = some (.slice A ks.length ck) := (hw1.cell (by simp)).trans (by simp [go_sem])
  have c4 : w1.cell? ⟨w.heap.size, 4, none⟩ = some (.slice A2 ns.length cc) := (hw1.cell (by simp)).trans (by simp [go_sem])
  go_wp2_with fail
  have HX1 := Lib.hid hx1
  clear hx1 c0 c1 c2 c3 c4 hw1 d0 d1
  go_loopw [5] (fun t5 wr => ∃ i : Nat, i ≤ ns.length ∧ t5 = .int .i64 i ∧ Hid (V = (rightLD (ns.drop i) (deep + 1) && keysB ks)) ∧ Hid (Blk wr w.heap.size 25 #[.int .i64 7, .int .i64 0, .string t, .slice A ks.length ck, .slice A2 ns.length cc]) ∧ Hid (Below w.heap.size w wr) ∧ w.heap.size < wr.heap.size) (fun t5 _ => ns.length - (intOf t5).toNat)
  case atStart => exact ⟨0, by omega, rfl, HV2, HX1, hW1, hz1⟩
  case round =>
    clear HX1 hW1 hz1
    obtain ⟨i, hi, rfl, hv, hx, hW, hz⟩ := hrel
    obtain ⟨wo, rfl⟩ : ∃ wo : World, wo = wr := ⟨_, rfl⟩
    have c3 : wo.cell? ⟨w.heap.size, 3, none⟩ = some (.slice A ks.length ck) := hx.out.cell 3
    have c4 : wo.cell? ⟨w.heap.size, 4, none⟩ = some (.slice A2 ns.length cc) := hx.out.cell 4
    by_cases hlt : i < ns.length
    · have hkeep : ∀ p : Addr, p.block < B → wo.cell? p = w.cell? p := fun p hp => hW.out.cell (by omega)
      obtain ⟨ad, n, v0, v1, v2, v3, v4, rfl, hadb, hni, hnd, e0, e1, e2, e3, e4⟩ := (HXS.out.keep hkeep).nd (NdsIs.keep hkeep _ _ HNS.out) hlt
      obtain ⟨x0, x1, x2, x3, x4, x5, x6, x7, x8, rfl, rfl, rfl, rfl, rfl⟩ := hnd.form
      have HST := Lib.hid (rightLD_at ns i n (deep + 1) hni)
      have HC : Hid (RrightC #[.int .i64 x0, .int .i64 x1, .string x2, .slice x3 x4 x5, .slice x6 x7 x8] (deep + 1) (rightD n (deep + 1)) wo) := HIH.out i n [.int .i64 x0, .int .i64 x1, .string x2, .slice x3 x4 x5, .slice x6 x7 x8] wo (deep + 1) hni hnd (by omega) (by have := HD.out; omega) (by have := HD.out; omega)
      have i0 : deep + 1 ≤ 25 := by have := HD.out; omega
      have i1 : 0 ≤ deep := HD.out.1
      clear hni hnd hkeep
      generalize rightD n (deep + 1) = b at *
      go_wp2_with fail
      refine (HC.out : Calls _ _ _ _ _).mono ?_; rintro e w2 ⟨rfl, hw2⟩
      have hW2 := hW.out.trans (hw2.mono (by omega))
      cases b with
      | false =>
        have HE : Hid (V = false) := by show _ = _; rw [hv.out, HST.out]; rfl
        go_wp2_with fail
        go_ret
        exact ⟨by rw [HE.out]; rfl, hW2⟩
      | true =>
        have HE : Hid (V = (rightLD (ns.drop (i + 1)) (deep + 1) && keysB ks)) := by show _ = _; rw [hv.out, HST.out]; rfl
        have hx2 : Hid (Blk w2 w.heap.size 25 #[.int .i64 7, .int .i64 0, .string t, .slice A ks.length ck, .slice (some ad) ns.length cc]) := hx.out.below hw2 (by omega)
        have hz2 : w.heap.size < w2.heap.size := by have := hw2.size; omega
        have HW2 := Lib.hid hW2
        clear hW2
        go_wp2_with fail
        go_roundw
        case rel => exact ⟨i + 1, by omega, by go_num, HE, hx2, HW2, hz2⟩
        case measure => simp [intOf]; omega
    · have HE : Hid (V = keysB ks) := by
        show _ = _
        rw [hv.out, List.drop_eq_nil_of_le (show ns.length ≤ i by omega), rightLD_nil]; rfl
      go_wp2_with fail
      clear c3 c4
      go_loopw [6] (fun t6 wr => ∃ i : Nat, i ≤ ks.length ∧ t6 = .int .i64 i ∧ Hid ((ks.take i).Nodup ∧ ∀ s ∈ ks.take i, validB s.toList = true) ∧ Hid (Blk wr w.heap.size 25 #[.int .i64 7, .int .i64 0, .string t, .slice A ks.length ck, .slice A2 ns.length cc]) ∧ Hid (Below w.heap.size w wr) ∧ w.heap.size < wr.heap.size) (fun t6 _ => ks.length - (intOf t6).toNat)
      case atStart => exact ⟨0, by omega, rfl, by constructor <;> simp, hx, hW, hz⟩
      case round =>
        clear hx hW hz
        obtain ⟨i, hi, rfl, hgd, hx, hW, hz⟩ := hrel
        obtain ⟨wo, rfl⟩ : ∃ wo : World, wo = wr := ⟨_, rfl⟩
        have c3 : wo.cell? ⟨w.heap.size, 3, none⟩ = some (.slice A ks.length ck) := hx.out.cell 3
        by_cases hlt : i < ks.length
        · obtain ⟨ad, s, rfl, hadb, hks, hc⟩ := (HKS.out.keep fun p hp => hW.out.cell (by omega)).str hlt
          have hss := HSZ.out s (List.mem_of_getElem? hks)
          have HVS : Hid (∀ w' : World, Calls Tryd.prog 48 #[.string s] w' fun e w'' => e = .returned (.bool (validB s.toList)) ∧ Below w'.heap.size w' w'') := fun w' => rvalid_any s w' hss
          have HKI := Lib.hid hks
          clear hks
          cases hvb : validB s.toList with
          | false =>
            have HF : Hid (V = false) := by show _ = _; rw [HE.out]; exact keysB_bad HKI.out hvb
            rw [hvb] at HVS
            go_wp2_with fail
            refine (HVS.out _).mono ?_; rintro e w2 ⟨rfl, hw2⟩
            have hW2 := hW.out.trans (hw2.mono (by omega))
            go_wp2_with fail
            go_ret
            exact ⟨by rw [HF.out]; rfl, hW2⟩
          | true =>
            have HVB := Lib.hid hvb
            rw [hvb] at HVS
            clear hvb
            go_wp2_with fail
            refine (HVS.out _).mono ?_; rintro e w2 ⟨rfl, hw2⟩
            have HW2 := Lib.hid (hW.out.trans (hw2.mono (by omega)))
            have hx2 : Hid (Blk w2 w.heap.size 25 #[.int .i64 7, .int .i64 0, .string t, .slice (some ad) ks.length ck, .slice A2 ns.length cc]) := hx.out.below hw2 (by omega)
            have hz2 : w.heap.size < w2.heap.size := by have := hw2.size; omega
            clear c3 hc hx hW
            go_wp2_with fail
            go_loopw [7] (fun t7 wr => ∃ j : Nat, j ≤ i ∧ t7 = .int .i64 j ∧ Hid (∀ (m : Nat) (u : ByteArray), m < j → ks[m]? = some u → (u.toList == s.toList) = false) ∧ Hid (Blk wr w.heap.size 25 #[.int .i64 7, .int .i64 0, .string t, .slice (some ad) ks.length ck, .slice A2 ns.length cc]) ∧ Hid (Below w.heap.size w wr) ∧ w.heap.size < wr.heap.size) (fun t7 _ => i - (intOf t7).toNat)
            case atStart => exact ⟨0, by omega, rfl, fun m u hm => by omega, hx2, HW2, hz2⟩
            case round =>
              clear hx2 HW2 hz2 hw2
              obtain ⟨j, hj, rfl, hne, hx, hW, hz⟩ := hrel
              obtain ⟨wi, rfl⟩ : ∃ wi : World, wi = wr := ⟨_, rfl⟩
              have c3 : wi.cell? ⟨w.heap.size, 3, none⟩ = some (.slice (some ad) ks.length ck) := hx.out.cell 3
              by_cases hjt : j < i
              · obtain ⟨ad', u, ea, hadb', hku, hcu⟩ := (HKS.out.keep fun p hp => hW.out.cell (by omega)).str (show j < ks.length by omega)
                obtain ⟨ad2, s2, ea2, hadb2, hks2, hc2⟩ := (HKS.out.keep fun p hp => hW.out.cell (by omega)).str hlt
                injection ea with ea; subst ea
                injection ea2 with ea2; subst ea2
                rw [HKI.out] at hks2
                injection hks2 with hs2; subst hs2
                have HKU := Lib.hid hku
                have j0 : (j : Int) < (ks.length : Int) := by omega
                have j1 : (i : Int) < (ks.length : Int) := by omega
                clear hku
                cases hq : (u.toList == s.toList) with
                | true =>
                  have HF : Hid (V = false) := by
                    show _ = _
                    rw [HE.out]
                    have e : u = s := by have := eq_of_beq hq; rw [ByteArray.toList_eq, ByteArray.toList_eq] at this; cases u; cases s; simp at this; rw [this]
                    exact keysB_twice HKI.out (e ▸ take_in hjt HKU.out)
                  go_wp2_with fail
                  go_quiet (fail)
                  go_wp2_with fail
                  go_ret
                  exact ⟨by rw [HF.out]; rfl, below_drewN hW.out _⟩
                | false =>
                  have hne2 : Hid (∀ (m : Nat) (u : ByteArray), m < j + 1 → ks[m]? = some u → (u.toList == s.toList) = false) := fun m u' hm hu => by
                    by_cases e : m = j
                    · subst e; rw [HKU.out] at hu; injection hu with e2; subst e2; exact hq
                    · exact hne.out m u' (by omega) hu
                  go_wp2_with fail
                  go_quiet (fail)
                  go_wp2_with fail
                  go_roundw
                  case rel => exact ⟨j + 1, by omega, by go_num, hne2, hx.out.drewN _, below_drewN hW.out _, hz⟩
                  case measure => simp [intOf]; omega
              · have hji : j = i := by omega
                have hgd2 : Hid ((ks.take (i + 1)).Nodup ∧ ∀ s ∈ ks.take (i + 1), validB s.toList = true) := by
                  show _ ∧ _
                  have hm := take_ne (ks := ks) (i := i) (s := s) (fun m u hm hu => hne.out m u (by omega) hu)
                  rw [take_snoc HKI.out]
                  refine ⟨?_, ?_⟩
                  · rw [List.nodup_append]
                    refine ⟨hgd.out.1, by simp, ?_⟩
                    intro a ha b hb e
                    simp at hb
                    subst hb; subst e; exact hm ha
                  · intro u hu
                    rw [List.mem_append] at hu
                    rcases hu with hu | hu
                    · exact hgd.out.2 u hu
                    · simp at hu; subst hu; exact HVB.out
                clear c3 hji
                go_wp2_with fail
                go_roundw
                case rel => exact ⟨i + 1, by omega, by go_num, hgd2, hx, hW, hz⟩
                case measure => simp [intOf]; omega
        · have HF : Hid (V = true) := by show _ = _; rw [HE.out]; exact keysB_all (show i = ks.length by omega) hgd.out
          go_wp2_with fail
          go_ret
          exact ⟨by rw [HF.out]; rfl, hW.out⟩
end Go.Proofs.YtofkdeojabongaaDoor
