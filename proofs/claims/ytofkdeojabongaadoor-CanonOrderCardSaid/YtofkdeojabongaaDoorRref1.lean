/- The walk of the reference's right. -/
import Derived.Test.YtofkdeojabongaaDoorRight2
namespace Go.Proofs.YtofkdeojabongaaDoor
open Go.RowKit Go.PlainAid
set_option linter.unusedVariables false
set_option linter.unusedSimpArgs false
def RrightC (vs : Array Value) (deep : Int) (b : Bool) (w : World) : Prop := Calls Tryd.prog 27 #[.agg vs, .int .i64 deep] w (BoolBel b w)
def RrightHyp (B : Nat) (ns : List Nd) : Prop := ∀ (i : Nat) (n : Nd) (cs : List Value) (w' : World) (deep : Int), ns[i]? = some n → NdIs w' B n cs → B ≤ w'.heap.size → 0 ≤ deep → deep ≤ 24 → RrightC cs.toArray deep (rightD n deep) w'
theorem keysB_nil : keysB [] = true := by unfold keysB; exact decide_eq_true ⟨List.nodup_nil, by simp⟩
theorem keysB_all {ks : List ByteArray} {i : Nat} (hi : i = ks.length) (h : (ks.take i).Nodup ∧ ∀ s ∈ ks.take i, validB s.toList = true) : keysB ks = true := by
  subst hi
  rw [List.take_length] at h
  unfold keysB
  exact decide_eq_true h
theorem rightD_eq (k num : Int) (t : ByteArray) (ks : List ByteArray) (ns : List Nd) (deep : Int) : rightD (.mk k num t ks ns) deep = (bareF k num t ks.length ns.length &&
    (k == 1 || k == 2 || k == 3 || (k == 4 && decide (-9007199254740991 ≤ num ∧ num ≤ 9007199254740991)) || (k == 5 && validB t.toList) ||
      ((k == 6 || k == 7) && decide (deep < 24) && (k == 6 || (decide (ks.length = ns.length) && keysB ks)) && rightLD ns (deep + 1)))) := by
    unfold rightLD rightD
    conv => lhs; unfold rightN
theorem take_ne {ks : List ByteArray} {i : Nat} {s : ByteArray} (h : ∀ (j : Nat) (u : ByteArray), j < i → ks[j]? = some u → (u.toList == s.toList) = false) : s ∉ ks.take i := by
  intro hm
  obtain ⟨j, hj⟩ := List.getElem?_of_mem hm
  have hl := (List.getElem?_eq_some_iff.1 hj).1
  rw [List.length_take] at hl
  rw [List.getElem?_take_of_lt (by omega)] at hj
  have := h j s (by omega) hj
  simp at this
theorem take_in {ks : List ByteArray} {i j : Nat} {u : ByteArray} (hj : j < i) (h : ks[j]? = some u) : u ∈ ks.take i := by
  have : (ks.take i)[j]? = some u := by rw [List.getElem?_take_of_lt hj]; exact h
  exact List.mem_of_getElem? this
set_option maxRecDepth 100000 in
set_option maxHeartbeats 3000000 in
theorem rright_const (k num : Int) (t : ByteArray) (ks : List ByteArray) (ns : List Nd) (A A2 : Option Addr) (ck cc : Nat) (xs : List Value) (w : World) (B : Nat) (deep : Int)
    (hks : Reads w B 1 A ks.length (ks.map Value.string)) (hxs : Reads w B 5 A2 ns.length xs) (hns : NdsIs w B ns xs) (ht : t.size ≤ 9223372036854775807) (hsz : ∀ s ∈ ks, s.size ≤ 9223372036854775807) (hk1 : ks.length ≤ 9223372036854775807) (hk2 : ns.length ≤ 9223372036854775807)
    (hB : B ≤ w.heap.size) (d0 : 0 ≤ deep) (d1 : deep ≤ 24) (HIH : Hid (RrightHyp B ns)) (hk : k = 1 ∨ k = 2 ∨ k = 3) :
    Calls Tryd.prog 27 #[.agg #[.int .i64 k, .int .i64 num, .string t, .slice A ks.length ck, .slice A2 ns.length cc], .int .i64 deep] w (BoolBel (rightD (.mk k num t ks ns) deep) w) := by
  have hW := Below.refl w.heap.size w
  have HV : Hid (_ = _) := rightD_eq k num t ks ns deep
  have HVC : Hid (∀ w' : World, Calls Tryd.prog 48 #[.string t] w' fun e w'' => e = .returned (.bool (validB t.toList)) ∧ Below w'.heap.size w' w'') := fun w' => rvalid_any t w' ht
  have hA : Below w.heap.size w (w.alloc (.cells #[.int .i64 k, .int .i64 num, .string t, .slice A ks.length ck, .slice A2 ns.length cc] 25)) := hW.alloc hW.size _
  generalize rightD (.mk k num t ks ns) deep = V at *
  rcases hk with rfl | rfl | rfl
  · by_cases hn : num = 0
    case neg =>
      have HE : Hid (V = false) := by show _ = _; rw [HV.out]; simp [bareF, hn]
      clear HV hks hxs hns hsz HIH
      go_enter Tryd.func27, Tryd.ntmps27
      go_wp2_with fail
      go_ret
      exact ⟨by rw [HE.out]; rfl, hA⟩
    subst hn
    by_cases ht0 : t = ⟨#[]⟩
    case neg =>
      have ht2 : decide (t = ⟨#[]⟩) = false := decide_eq_false ht0
      have ht3 : ¬ t.toList = [] := fun h => ht0 (by cases t with | mk d => rw [ByteArray.toList_eq] at h; simp at h; rw [h])
      have ht4 : t.toList.isEmpty = false := by simp [ht3]
      have HE : Hid (V = false) := by show _ = _; rw [HV.out]; simp [bareF, ht0]
      clear HV hks hxs hns hsz HIH
      go_enter Tryd.func27, Tryd.ntmps27
      go_wp2_with fail
      go_ret
      exact ⟨by rw [HE.out]; rfl, hA⟩
    have ht2 : decide (t = ⟨#[]⟩) = true := decide_eq_true ht0
    have ht3 : t.toList = [] := by rw [ht0, ByteArray.toList_eq]
    have ht4 : t.toList.isEmpty = true := by rw [ht3]; rfl
    have hvt : validB t.toList = true := by rw [ht3]; exact validB_nil
    rw [hvt] at HVC
    rw [ht3] at HV
    clear hvt ht0
    by_cases hb0 : 0 < ns.length
    case pos =>
      have hb2 : ns ≠ [] := fun h => by rw [h] at hb0; simp at hb0
      have HE : Hid (V = false) := by show _ = _; rw [HV.out]; simp [bareF, hb2]
      clear HV hks hxs hns hsz HIH
      go_enter Tryd.func27, Tryd.ntmps27
      go_wp2_with fail
      refine (HVC.out _).mono ?_; rintro e w1 ⟨rfl, hw1⟩
      have hW1 := hA.trans (hw1.mono (by simp))
      have c0 : w1.cell? ⟨w.heap.size, 0, none⟩ = some (.int .i64 1) := (hw1.cell (by simp)).trans (by simp [go_sem])
      have c1 : w1.cell? ⟨w.heap.size, 1, none⟩ = some (.int .i64 0) := (hw1.cell (by simp)).trans (by simp [go_sem])
      have c2 : w1.cell? ⟨w.heap.size, 2, none⟩ = some (.string t) := (hw1.cell (by simp)).trans (by simp [go_sem])
      have c3 : w1.cell? ⟨w.heap.size, 3, none⟩ = some (.slice A ks.length ck) := (hw1.cell (by simp)).trans (by simp [go_sem])
      have c4 : w1.cell? ⟨w.heap.size, 4, none⟩ = some (.slice A2 ns.length cc) := (hw1.cell (by simp)).trans (by simp [go_sem])
      go_wp2_with fail
      go_ret
      exact ⟨by rw [HE.out]; rfl, hW1⟩
    have hb3 : ns.length < 1 := by omega
    have HBN : Hid (ns = []) := List.eq_nil_of_length_eq_zero (by omega)
    clear hb0
    by_cases ha0 : 0 < ks.length
    case pos =>
      have ha2 : ks ≠ [] := fun h => by rw [h] at ha0; simp at ha0
      have HE : Hid (V = false) := by show _ = _; rw [HV.out]; simp [bareF, ha2]
      clear HV hks hxs hns hsz HIH
      go_enter Tryd.func27, Tryd.ntmps27
      go_wp2_with fail
      refine (HVC.out _).mono ?_; rintro e w1 ⟨rfl, hw1⟩
      have hW1 := hA.trans (hw1.mono (by simp))
      have c0 : w1.cell? ⟨w.heap.size, 0, none⟩ = some (.int .i64 1) := (hw1.cell (by simp)).trans (by simp [go_sem])
      have c1 : w1.cell? ⟨w.heap.size, 1, none⟩ = some (.int .i64 0) := (hw1.cell (by simp)).trans (by simp [go_sem])
      have c2 : w1.cell? ⟨w.heap.size, 2, none⟩ = some (.string t) := (hw1.cell (by simp)).trans (by simp [go_sem])
      have c3 : w1.cell? ⟨w.heap.size, 3, none⟩ = some (.slice A ks.length ck) := (hw1.cell (by simp)).trans (by simp [go_sem])
      have c4 : w1.cell? ⟨w.heap.size, 4, none⟩ = some (.slice A2 ns.length cc) := (hw1.cell (by simp)).trans (by simp [go_sem])
      go_wp2_with fail
      go_ret
      exact ⟨by rw [HE.out]; rfl, hW1⟩
    have ha3 : ks.length < 1 := by omega
    have HAN : Hid (ks = []) := List.eq_nil_of_length_eq_zero (by omega)
    clear ha0
    have HE : Hid (V = true) := by show _ = _; rw [HV.out, HAN.out, HBN.out]; simp [bareF, *]
    clear HV hks hxs hns hsz HIH
    go_enter Tryd.func27, Tryd.ntmps27
    go_wp2_with fail
    refine (HVC.out _).mono ?_; rintro e w1 ⟨rfl, hw1⟩
    have hW1 := hA.trans (hw1.mono (by simp))
    have c0 : w1.cell? ⟨w.heap.size, 0, none⟩ = some (.int .i64 1) := (hw1.cell (by simp)).trans (by simp [go_sem])
    have c1 : w1.cell? ⟨w.heap.size, 1, none⟩ = some (.int .i64 0) := (hw1.cell (by simp)).trans (by simp [go_sem])
    have c2 : w1.cell? ⟨w.heap.size, 2, none⟩ = some (.string t) := (hw1.cell (by simp)).trans (by simp [go_sem])
    have c3 : w1.cell? ⟨w.heap.size, 3, none⟩ = some (.slice A ks.length ck) := (hw1.cell (by simp)).trans (by simp [go_sem])
    have c4 : w1.cell? ⟨w.heap.size, 4, none⟩ = some (.slice A2 ns.length cc) := (hw1.cell (by simp)).trans (by simp [go_sem])
    go_wp2_with fail
    refine wp_loop_rounds 1 ?_; rw [rounds_succ]
    go_wp2_with fail
    refine wp_loop_rounds 1 ?_; rw [rounds_succ]
    go_wp2_with fail
    go_ret
    exact ⟨by rw [HE.out]; rfl, hW1⟩
  · by_cases hn : num = 0
    case neg =>
      have HE : Hid (V = false) := by show _ = _; rw [HV.out]; simp [bareF, hn]
      clear HV hks hxs hns hsz HIH
      go_enter Tryd.func27, Tryd.ntmps27
      go_wp2_with fail
      go_ret
      exact ⟨by rw [HE.out]; rfl, hA⟩
    subst hn
    by_cases ht0 : t = ⟨#[]⟩
    case neg =>
      have ht2 : decide (t = ⟨#[]⟩) = false := decide_eq_false ht0
      have ht3 : ¬ t.toList = [] := fun h => ht0 (by cases t with | mk d => rw [ByteArray.toList_eq] at h; simp at h; rw [h])
      have ht4 : t.toList.isEmpty = false := by simp [ht3]
      have HE : Hid (V = false) := by show _ = _; rw [HV.out]; simp [bareF, ht0]
      clear HV hks hxs hns hsz HIH
      go_enter Tryd.func27, Tryd.ntmps27
      go_wp2_with fail
      go_ret
      exact ⟨by rw [HE.out]; rfl, hA⟩
    have ht2 : decide (t = ⟨#[]⟩) = true := decide_eq_true ht0
    have ht3 : t.toList = [] := by rw [ht0, ByteArray.toList_eq]
    have ht4 : t.toList.isEmpty = true := by rw [ht3]; rfl
    have hvt : validB t.toList = true := by rw [ht3]; exact validB_nil
    rw [hvt] at HVC
    rw [ht3] at HV
    clear hvt ht0
    by_cases hb0 : 0 < ns.length
    case pos =>
      have hb2 : ns ≠ [] := fun h => by rw [h] at hb0; simp at hb0
      have HE : Hid (V = false) := by show _ = _; rw [HV.out]; simp [bareF, hb2]
      clear HV hks hxs hns hsz HIH
      go_enter Tryd.func27, Tryd.ntmps27
      go_wp2_with fail
      refine (HVC.out _).mono ?_; rintro e w1 ⟨rfl, hw1⟩
      have hW1 := hA.trans (hw1.mono (by simp))
      have c0 : w1.cell? ⟨w.heap.size, 0, none⟩ = some (.int .i64 2) := (hw1.cell (by simp)).trans (by simp [go_sem])
      have c1 : w1.cell? ⟨w.heap.size, 1, none⟩ = some (.int .i64 0) := (hw1.cell (by simp)).trans (by simp [go_sem])
      have c2 : w1.cell? ⟨w.heap.size, 2, none⟩ = some (.string t) := (hw1.cell (by simp)).trans (by simp [go_sem])
      have c3 : w1.cell? ⟨w.heap.size, 3, none⟩ = some (.slice A ks.length ck) := (hw1.cell (by simp)).trans (by simp [go_sem])
      have c4 : w1.cell? ⟨w.heap.size, 4, none⟩ = some (.slice A2 ns.length cc) := (hw1.cell (by simp)).trans (by simp [go_sem])
      go_wp2_with fail
      go_ret
      exact ⟨by rw [HE.out]; rfl, hW1⟩
    have hb3 : ns.length < 1 := by omega
    have HBN : Hid (ns = []) := List.eq_nil_of_length_eq_zero (by omega)
    clear hb0
    by_cases ha0 : 0 < ks.length
    case pos =>
      have ha2 : ks ≠ [] := fun h => by rw [h] at ha0; simp at ha0
      have HE : Hid (V = false) := by show _ = _; rw [HV.out]; simp [bareF, ha2]
      clear HV hks hxs hns hsz HIH
      go_enter Tryd.func27, Tryd.ntmps27
      go_wp2_with fail
      refine (HVC.out _).mono ?_; rintro e w1 ⟨rfl, hw1⟩
      have hW1 := hA.trans (hw1.mono (by simp))
      have c0 : w1.cell? ⟨w.heap.size, 0, none⟩ = some (.int .i64 2) := (hw1.cell (by simp)).trans (by simp [go_sem])
      have c1 : w1.cell? ⟨w.heap.size, 1, none⟩ = some (.int .i64 0) := (hw1.cell (by simp)).trans (by simp [go_sem])
      have c2 : w1.cell? ⟨w.heap.size, 2, none⟩ = some (.string t) := (hw1.cell (by simp)).trans (by simp [go_sem])
      have c3 : w1.cell? ⟨w.heap.size, 3, none⟩ = some (.slice A ks.length ck) := (hw1.cell (by simp)).trans (by simp [go_sem])
      have c4 : w1.cell? ⟨w.heap.size, 4, none⟩ = some (.slice A2 ns.length cc) := (hw1.cell (by simp)).trans (by simp [go_sem])
      go_wp2_with fail
      go_ret
      exact ⟨by rw [HE.out]; rfl, hW1⟩
    have ha3 : ks.length < 1 := by omega
    have HAN : Hid (ks = []) := List.eq_nil_of_length_eq_zero (by omega)
    clear ha0
    have HE : Hid (V = true) := by show _ = _; rw [HV.out, HAN.out, HBN.out]; simp [bareF, *]
    clear HV hks hxs hns hsz HIH
    go_enter Tryd.func27, Tryd.ntmps27
    go_wp2_with fail
    refine (HVC.out _).mono ?_; rintro e w1 ⟨rfl, hw1⟩
    have hW1 := hA.trans (hw1.mono (by simp))
    have c0 : w1.cell? ⟨w.heap.size, 0, none⟩ = some (.int .i64 2) := (hw1.cell (by simp)).trans (by simp [go_sem])
    have c1 : w1.cell? ⟨w.heap.size, 1, none⟩ = some (.int .i64 0) := (hw1.cell (by simp)).trans (by simp [go_sem])
    have c2 : w1.cell? ⟨w.heap.size, 2, none⟩ = some (.string t) := (hw1.cell (by simp)).trans (by simp [go_sem])
    have c3 : w1.cell? ⟨w.heap.size, 3, none⟩ = some (.slice A ks.length ck) := (hw1.cell (by simp)).trans (by simp [go_sem])
    have c4 : w1.cell? ⟨w.heap.size, 4, none⟩ = some (.slice A2 ns.length cc) := (hw1.cell (by simp)).trans (by simp [go_sem])
    go_wp2_with fail
    refine wp_loop_rounds 1 ?_; rw [rounds_succ]
    go_wp2_with fail
    refine wp_loop_rounds 1 ?_; rw [rounds_succ]
    go_wp2_with fail
    go_ret
    exact ⟨by rw [HE.out]; rfl, hW1⟩
  · by_cases hn : num = 0
    case neg =>
      have HE : Hid (V = false) := by show _ = _; rw [HV.out]; simp [bareF, hn]
      clear HV hks hxs hns hsz HIH
      go_enter Tryd.func27, Tryd.ntmps27
      go_wp2_with fail
      go_ret
      exact ⟨by rw [HE.out]; rfl, hA⟩
    subst hn
    by_cases ht0 : t = ⟨#[]⟩
    case neg =>
      have ht2 : decide (t = ⟨#[]⟩) = false := decide_eq_false ht0
      have ht3 : ¬ t.toList = [] := fun h => ht0 (by cases t with | mk d => rw [ByteArray.toList_eq] at h; simp at h; rw [h])
      have ht4 : t.toList.isEmpty = false := by simp [ht3]
      have HE : Hid (V = false) := by show _ = _; rw [HV.out]; simp [bareF, ht0]
      clear HV hks hxs hns hsz HIH
      go_enter Tryd.func27, Tryd.ntmps27
      go_wp2_with fail
      go_ret
      exact ⟨by rw [HE.out]; rfl, hA⟩
    have ht2 : decide (t = ⟨#[]⟩) = true := decide_eq_true ht0
    have ht3 : t.toList = [] := by rw [ht0, ByteArray.toList_eq]
    have ht4 : t.toList.isEmpty = true := by rw [ht3]; rfl
    have hvt : validB t.toList = true := by rw [ht3]; exact validB_nil
    rw [hvt] at HVC
    rw [ht3] at HV
    clear hvt ht0
    by_cases hb0 : 0 < ns.length
    case pos =>
      have hb2 : ns ≠ [] := fun h => by rw [h] at hb0; simp at hb0
      have HE : Hid (V = false) := by show _ = _; rw [HV.out]; simp [bareF, hb2]
      clear HV hks hxs hns hsz HIH
      go_enter Tryd.func27, Tryd.ntmps27
      go_wp2_with fail
      refine (HVC.out _).mono ?_; rintro e w1 ⟨rfl, hw1⟩
      have hW1 := hA.trans (hw1.mono (by simp))
      have c0 : w1.cell? ⟨w.heap.size, 0, none⟩ = some (.int .i64 3) := (hw1.cell (by simp)).trans (by simp [go_sem])
      have c1 : w1.cell? ⟨w.heap.size, 1, none⟩ = some (.int .i64 0) := (hw1.cell (by simp)).trans (by simp [go_sem])
      have c2 : w1.cell? ⟨w.heap.size, 2, none⟩ = some (.string t) := (hw1.cell (by simp)).trans (by simp [go_sem])
      have c3 : w1.cell? ⟨w.heap.size, 3, none⟩ = some (.slice A ks.length ck) := (hw1.cell (by simp)).trans (by simp [go_sem])
      have c4 : w1.cell? ⟨w.heap.size, 4, none⟩ = some (.slice A2 ns.length cc) := (hw1.cell (by simp)).trans (by simp [go_sem])
      go_wp2_with fail
      go_ret
      exact ⟨by rw [HE.out]; rfl, hW1⟩
    have hb3 : ns.length < 1 := by omega
    have HBN : Hid (ns = []) := List.eq_nil_of_length_eq_zero (by omega)
    clear hb0
    by_cases ha0 : 0 < ks.length
    case pos =>
      have ha2 : ks ≠ [] := fun h => by rw [h] at ha0; simp at ha0
      have HE : Hid (V = false) := by show _ = _; rw [HV.out]; simp [bareF, ha2]
      clear HV hks hxs hns hsz HIH
      go_enter Tryd.func27, Tryd.ntmps27
      go_wp2_with fail
      refine (HVC.out _).mono ?_; rintro e w1 ⟨rfl, hw1⟩
      have hW1 := hA.trans (hw1.mono (by simp))
      have c0 : w1.cell? ⟨w.heap.size, 0, none⟩ = some (.int .i64 3) := (hw1.cell (by simp)).trans (by simp [go_sem])
      have c1 : w1.cell? ⟨w.heap.size, 1, none⟩ = some (.int .i64 0) := (hw1.cell (by simp)).trans (by simp [go_sem])
      have c2 : w1.cell? ⟨w.heap.size, 2, none⟩ = some (.string t) := (hw1.cell (by simp)).trans (by simp [go_sem])
      have c3 : w1.cell? ⟨w.heap.size, 3, none⟩ = some (.slice A ks.length ck) := (hw1.cell (by simp)).trans (by simp [go_sem])
      have c4 : w1.cell? ⟨w.heap.size, 4, none⟩ = some (.slice A2 ns.length cc) := (hw1.cell (by simp)).trans (by simp [go_sem])
      go_wp2_with fail
      go_ret
      exact ⟨by rw [HE.out]; rfl, hW1⟩
    have ha3 : ks.length < 1 := by omega
    have HAN : Hid (ks = []) := List.eq_nil_of_length_eq_zero (by omega)
    clear ha0
    have HE : Hid (V = true) := by show _ = _; rw [HV.out, HAN.out, HBN.out]; simp [bareF, *]
    clear HV hks hxs hns hsz HIH
    go_enter Tryd.func27, Tryd.ntmps27
    go_wp2_with fail
    refine (HVC.out _).mono ?_; rintro e w1 ⟨rfl, hw1⟩
    have hW1 := hA.trans (hw1.mono (by simp))
    have c0 : w1.cell? ⟨w.heap.size, 0, none⟩ = some (.int .i64 3) := (hw1.cell (by simp)).trans (by simp [go_sem])
    have c1 : w1.cell? ⟨w.heap.size, 1, none⟩ = some (.int .i64 0) := (hw1.cell (by simp)).trans (by simp [go_sem])
    have c2 : w1.cell? ⟨w.heap.size, 2, none⟩ = some (.string t) := (hw1.cell (by simp)).trans (by simp [go_sem])
    have c3 : w1.cell? ⟨w.heap.size, 3, none⟩ = some (.slice A ks.length ck) := (hw1.cell (by simp)).trans (by simp [go_sem])
    have c4 : w1.cell? ⟨w.heap.size, 4, none⟩ = some (.slice A2 ns.length cc) := (hw1.cell (by simp)).trans (by simp [go_sem])
    go_wp2_with fail
    refine wp_loop_rounds 1 ?_; rw [rounds_succ]
    go_wp2_with fail
    refine wp_loop_rounds 1 ?_; rw [rounds_succ]
    go_wp2_with fail
    go_ret
    exact ⟨by rw [HE.out]; rfl, hW1⟩
set_option maxRecDepth 100000 in
set_option maxHeartbeats 3000000 in
theorem rright_num (k num : Int) (t : ByteArray) (ks : List ByteArray) (ns : List Nd) (A A2 : Option Addr) (ck cc : Nat) (xs : List Value) (w : World) (B : Nat) (deep : Int)
    (hks : Reads w B 1 A ks.length (ks.map Value.string)) (hxs : Reads w B 5 A2 ns.length xs) (hns : NdsIs w B ns xs) (ht : t.size ≤ 9223372036854775807) (hsz : ∀ s ∈ ks, s.size ≤ 9223372036854775807) (hk1 : ks.length ≤ 9223372036854775807) (hk2 : ns.length ≤ 9223372036854775807)
    (hB : B ≤ w.heap.size) (d0 : 0 ≤ deep) (d1 : deep ≤ 24) (HIH : Hid (RrightHyp B ns)) (hk : k = 4) :
    Calls Tryd.prog 27 #[.agg #[.int .i64 k, .int .i64 num, .string t, .slice A ks.length ck, .slice A2 ns.length cc], .int .i64 deep] w (BoolBel (rightD (.mk k num t ks ns) deep) w) := by
  have hW := Below.refl w.heap.size w
  have HV : Hid (_ = _) := rightD_eq k num t ks ns deep
  have HVC : Hid (∀ w' : World, Calls Tryd.prog 48 #[.string t] w' fun e w'' => e = .returned (.bool (validB t.toList)) ∧ Below w'.heap.size w' w'') := fun w' => rvalid_any t w' ht
  have hA : Below w.heap.size w (w.alloc (.cells #[.int .i64 k, .int .i64 num, .string t, .slice A ks.length ck, .slice A2 ns.length cc] 25)) := hW.alloc hW.size _
  generalize rightD (.mk k num t ks ns) deep = V at *
  subst hk
  cases e1 : decide (9007199254740991 < num) with
  | true =>
    have HE : Hid (V = false) := by show _ = _; rw [HV.out]; have h9 := of_decide_eq_true e1; simp; omega
    clear HV hks hxs hns hsz HIH
    go_enter Tryd.func27, Tryd.ntmps27
    go_wp2_with fail
    go_ret
    exact ⟨by rw [HE.out]; rfl, hA⟩
  | false =>
  cases e2 : decide (num < -9007199254740991) with
  | true =>
    have HE : Hid (V = false) := by show _ = _; rw [HV.out]; have h9 := of_decide_eq_true e2; simp; omega
    clear HV hks hxs hns hsz HIH
    go_enter Tryd.func27, Tryd.ntmps27
    go_wp2_with fail
    go_ret
    exact ⟨by rw [HE.out]; rfl, hA⟩
  | false =>
  by_cases ht0 : t = ⟨#[]⟩
  case neg =>
    have ht2 : decide (t = ⟨#[]⟩) = false := decide_eq_false ht0
    have ht3 : ¬ t.toList = [] := fun h => ht0 (by cases t with | mk d => rw [ByteArray.toList_eq] at h; simp at h; rw [h])
    have ht4 : t.toList.isEmpty = false := by simp [ht3]
    have HE : Hid (V = false) := by show _ = _; rw [HV.out]; simp [bareF, ht0]
    clear HV hks hxs hns hsz HIH
    go_enter Tryd.func27, Tryd.ntmps27
    go_wp2_with fail
    go_ret
    exact ⟨by rw [HE.out]; rfl, hA⟩
  have ht2 : decide (t = ⟨#[]⟩) = true := decide_eq_true ht0
  have ht3 : t.toList = [] := by rw [ht0, ByteArray.toList_eq]
  have ht4 : t.toList.isEmpty = true := by rw [ht3]; rfl
  have hvt : validB t.toList = true := by rw [ht3]; exact validB_nil
  rw [hvt] at HVC
  rw [ht3] at HV
  clear hvt ht0
  by_cases hb0 : 0 < ns.length
  case pos =>
    have hb2 : ns ≠ [] := fun h => by rw [h] at hb0; simp at hb0
    have HE : Hid (V = false) := by show _ = _; rw [HV.out]; simp [bareF, hb2]
    clear HV hks hxs hns hsz HIH
    go_enter Tryd.func27, Tryd.ntmps27
    go_wp2_with fail
    refine (HVC.out _).mono ?_; rintro e w1 ⟨rfl, hw1⟩
    have hW1 := hA.trans (hw1.mono (by simp))
    have c0 : w1.cell? ⟨w.heap.size, 0, none⟩ = some (.int .i64 4) := (hw1.cell (by simp)).trans (by simp [go_sem])
    have c1 : w1.cell? ⟨w.heap.size, 1, none⟩ = some (.int .i64 num) := (hw1.cell (by simp)).trans (by simp [go_sem])
    have c2 : w1.cell? ⟨w.heap.size, 2, none⟩ = some (.string t) := (hw1.cell (by simp)).trans (by simp [go_sem])
    have c3 : w1.cell? ⟨w.heap.size, 3, none⟩ = some (.slice A ks.length ck) := (hw1.cell (by simp)).trans (by simp [go_sem])
    have c4 : w1.cell? ⟨w.heap.size, 4, none⟩ = some (.slice A2 ns.length cc) := (hw1.cell (by simp)).trans (by simp [go_sem])
    go_wp2_with fail
    go_ret
    exact ⟨by rw [HE.out]; rfl, hW1⟩
  have hb3 : ns.length < 1 := by omega
  have HBN : Hid (ns = []) := List.eq_nil_of_length_eq_zero (by omega)
  clear hb0
  by_cases ha0 : 0 < ks.length
  case pos =>
    have ha2 : ks ≠ [] := fun h => by rw [h] at ha0; simp at ha0
    have HE : Hid (V = false) := by show _ = _; rw [HV.out]; simp [bareF, ha2]
    clear HV hks hxs hns hsz HIH
    go_enter Tryd.func27, Tryd.ntmps27
    go_wp2_with fail
    refine (HVC.out _).mono ?_; rintro e w1 ⟨rfl, hw1⟩
    have hW1 := hA.trans (hw1.mono (by simp))
    have c0 : w1.cell? ⟨w.heap.size, 0, none⟩ = some (.int .i64 4) := (hw1.cell (by simp)).trans (by simp [go_sem])
    have c1 : w1.cell? ⟨w.heap.size, 1, none⟩ = some (.int .i64 num) := (hw1.cell (by simp)).trans (by simp [go_sem])
    have c2 : w1.cell? ⟨w.heap.size, 2, none⟩ = some (.string t) := (hw1.cell (by simp)).trans (by simp [go_sem])
    have c3 : w1.cell? ⟨w.heap.size, 3, none⟩ = some (.slice A ks.length ck) := (hw1.cell (by simp)).trans (by simp [go_sem])
    have c4 : w1.cell? ⟨w.heap.size, 4, none⟩ = some (.slice A2 ns.length cc) := (hw1.cell (by simp)).trans (by simp [go_sem])
    go_wp2_with fail
    go_ret
    exact ⟨by rw [HE.out]; rfl, hW1⟩
  have ha3 : ks.length < 1 := by omega
  have HAN : Hid (ks = []) := List.eq_nil_of_length_eq_zero (by omega)
  clear ha0
  have HE : Hid (V = true) := by show _ = _; rw [HV.out, HAN.out, HBN.out]; have h8 := of_decide_eq_false e1; have h9 := of_decide_eq_false e2; simp [bareF, *]; omega
  clear HV hks hxs hns hsz HIH
  go_enter Tryd.func27, Tryd.ntmps27
  go_wp2_with fail
  refine (HVC.out _).mono ?_; rintro e w1 ⟨rfl, hw1⟩
  have hW1 := hA.trans (hw1.mono (by simp))
  have c0 : w1.cell? ⟨w.heap.size, 0, none⟩ = some (.int .i64 4) := (hw1.cell (by simp)).trans (by simp [go_sem])
  have c1 : w1.cell? ⟨w.heap.size, 1, none⟩ = some (.int .i64 num) := (hw1.cell (by simp)).trans (by simp [go_sem])
  have c2 : w1.cell? ⟨w.heap.size, 2, none⟩ = some (.string t) := (hw1.cell (by simp)).trans (by simp [go_sem])
  have c3 : w1.cell? ⟨w.heap.size, 3, none⟩ = some (.slice A ks.length ck) := (hw1.cell (by simp)).trans (by simp [go_sem])
  have c4 : w1.cell? ⟨w.heap.size, 4, none⟩ = some (.slice A2 ns.length cc) := (hw1.cell (by simp)).trans (by simp [go_sem])
  go_wp2_with fail
  refine wp_loop_rounds 1 ?_; rw [rounds_succ]
  go_wp2_with fail
  refine wp_loop_rounds 1 ?_; rw [rounds_succ]
  go_wp2_with fail
  go_ret
  exact ⟨by rw [HE.out]; rfl, hW1⟩
set_option maxRecDepth 100000 in
set_option maxHeartbeats 3000000 in
theorem rright_str (k num : Int) (t : ByteArray) (ks : List ByteArray) (ns : List Nd) (A A2 : Option Addr) (ck cc : Nat) (xs : List Value) (w : World) (B : Nat) (deep : Int)
    (hks : Reads w B 1 A ks.length (ks.map Value.string)) (hxs : Reads w B 5 A2 ns.length xs) (hns : NdsIs w B ns xs) (ht : t.size ≤ 9223372036854775807) (hsz : ∀ s ∈ ks, s.size ≤ 9223372036854775807) (hk1 : ks.length ≤ 9223372036854775807) (hk2 : ns.length ≤ 9223372036854775807)
    (hB : B ≤ w.heap.size) (d0 : 0 ≤ deep) (d1 : deep ≤ 24) (HIH : Hid (RrightHyp B ns)) (hk : k = 5) :
    Calls Tryd.prog 27 #[.agg #[.int .i64 k, .int .i64 num, .string t, .slice A ks.length ck, .slice A2 ns.length cc], .int .i64 deep] w (BoolBel (rightD (.mk k num t ks ns) deep) w) := by
  have hW := Below.refl w.heap.size w
  have HV : Hid (_ = _) := rightD_eq k num t ks ns deep
  have HVC : Hid (∀ w' : World, Calls Tryd.prog 48 #[.string t] w' fun e w'' => e = .returned (.bool (validB t.toList)) ∧ Below w'.heap.size w' w'') := fun w' => rvalid_any t w' ht
  have hA : Below w.heap.size w (w.alloc (.cells #[.int .i64 k, .int .i64 num, .string t, .slice A ks.length ck, .slice A2 ns.length cc] 25)) := hW.alloc hW.size _
  generalize rightD (.mk k num t ks ns) deep = V at *
  subst hk
  by_cases hn : num = 0
  case neg =>
    have HE : Hid (V = false) := by show _ = _; rw [HV.out]; simp [bareF, hn]
    clear HV hks hxs hns hsz HIH
    go_enter Tryd.func27, Tryd.ntmps27
    go_wp2_with fail
    go_ret
    exact ⟨by rw [HE.out]; rfl, hA⟩
  subst hn
  generalize validB t.toList = vl at *
  cases vl with
  | false =>
    have HE : Hid (V = false) := by show _ = _; rw [HV.out]; simp
    clear HV hks hxs hns hsz HIH
    go_enter Tryd.func27, Tryd.ntmps27
    go_wp2_with fail
    refine (HVC.out _).mono ?_; rintro e w1 ⟨rfl, hw1⟩
    have hW1 := hA.trans (hw1.mono (by simp))
    have c0 : w1.cell? ⟨w.heap.size, 0, none⟩ = some (.int .i64 5) := (hw1.cell (by simp)).trans (by simp [go_sem])
    have c1 : w1.cell? ⟨w.heap.size, 1, none⟩ = some (.int .i64 0) := (hw1.cell (by simp)).trans (by simp [go_sem])
    have c2 : w1.cell? ⟨w.heap.size, 2, none⟩ = some (.string t) := (hw1.cell (by simp)).trans (by simp [go_sem])
    have c3 : w1.cell? ⟨w.heap.size, 3, none⟩ = some (.slice A ks.length ck) := (hw1.cell (by simp)).trans (by simp [go_sem])
    have c4 : w1.cell? ⟨w.heap.size, 4, none⟩ = some (.slice A2 ns.length cc) := (hw1.cell (by simp)).trans (by simp [go_sem])
    go_wp2_with fail
    go_ret
    exact ⟨by rw [HE.out]; rfl, hW1⟩
  | true =>
  by_cases hb0 : 0 < ns.length
  case pos =>
    have hb2 : ns ≠ [] := fun h => by rw [h] at hb0; simp at hb0
    have HE : Hid (V = false) := by show _ = _; rw [HV.out]; simp [bareF, hb2]
    clear HV hks hxs hns hsz HIH
    go_enter Tryd.func27, Tryd.ntmps27
    go_wp2_with fail
    refine (HVC.out _).mono ?_; rintro e w1 ⟨rfl, hw1⟩
    have hW1 := hA.trans (hw1.mono (by simp))
    have c0 : w1.cell? ⟨w.heap.size, 0, none⟩ = some (.int .i64 5) := (hw1.cell (by simp)).trans (by simp [go_sem])
    have c1 : w1.cell? ⟨w.heap.size, 1, none⟩ = some (.int .i64 0) := (hw1.cell (by simp)).trans (by simp [go_sem])
    have c2 : w1.cell? ⟨w.heap.size, 2, none⟩ = some (.string t) := (hw1.cell (by simp)).trans (by simp [go_sem])
    have c3 : w1.cell? ⟨w.heap.size, 3, none⟩ = some (.slice A ks.length ck) := (hw1.cell (by simp)).trans (by simp [go_sem])
    have c4 : w1.cell? ⟨w.heap.size, 4, none⟩ = some (.slice A2 ns.length cc) := (hw1.cell (by simp)).trans (by simp [go_sem])
    go_wp2_with fail
    go_ret
    exact ⟨by rw [HE.out]; rfl, hW1⟩
  have hb3 : ns.length < 1 := by omega
  have HBN : Hid (ns = []) := List.eq_nil_of_length_eq_zero (by omega)
  clear hb0
  by_cases ha0 : 0 < ks.length
  case pos =>
    have ha2 : ks ≠ [] := fun h => by rw [h] at ha0; simp at ha0
    have HE : Hid (V = false) := by show _ = _; rw [HV.out]; simp [bareF, ha2]
    clear HV hks hxs hns hsz HIH
    go_enter Tryd.func27, Tryd.ntmps27
    go_wp2_with fail
    refine (HVC.out _).mono ?_; rintro e w1 ⟨rfl, hw1⟩
    have hW1 := hA.trans (hw1.mono (by simp))
    have c0 : w1.cell? ⟨w.heap.size, 0, none⟩ = some (.int .i64 5) := (hw1.cell (by simp)).trans (by simp [go_sem])
    have c1 : w1.cell? ⟨w.heap.size, 1, none⟩ = some (.int .i64 0) := (hw1.cell (by simp)).trans (by simp [go_sem])
    have c2 : w1.cell? ⟨w.heap.size, 2, none⟩ = some (.string t) := (hw1.cell (by simp)).trans (by simp [go_sem])
    have c3 : w1.cell? ⟨w.heap.size, 3, none⟩ = some (.slice A ks.length ck) := (hw1.cell (by simp)).trans (by simp [go_sem])
    have c4 : w1.cell? ⟨w.heap.size, 4, none⟩ = some (.slice A2 ns.length cc) := (hw1.cell (by simp)).trans (by simp [go_sem])
    go_wp2_with fail
    go_ret
    exact ⟨by rw [HE.out]; rfl, hW1⟩
  have ha3 : ks.length < 1 := by omega
  have HAN : Hid (ks = []) := List.eq_nil_of_length_eq_zero (by omega)
  clear ha0
  have HE : Hid (V = true) := by show _ = _; rw [HV.out, HAN.out, HBN.out]; simp [bareF, *]
  clear HV hks hxs hns hsz HIH
  go_enter Tryd.func27, Tryd.ntmps27
  go_wp2_with fail
  refine (HVC.out _).mono ?_; rintro e w1 ⟨rfl, hw1⟩
  have hW1 := hA.trans (hw1.mono (by simp))
  have c0 : w1.cell? ⟨w.heap.size, 0, none⟩ = some (.int .i64 5) := (hw1.cell (by simp)).trans (by simp [go_sem])
  have c1 : w1.cell? ⟨w.heap.size, 1, none⟩ = some (.int .i64 0) := (hw1.cell (by simp)).trans (by simp [go_sem])
  have c2 : w1.cell? ⟨w.heap.size, 2, none⟩ = some (.string t) := (hw1.cell (by simp)).trans (by simp [go_sem])
  have c3 : w1.cell? ⟨w.heap.size, 3, none⟩ = some (.slice A ks.length ck) := (hw1.cell (by simp)).trans (by simp [go_sem])
  have c4 : w1.cell? ⟨w.heap.size, 4, none⟩ = some (.slice A2 ns.length cc) := (hw1.cell (by simp)).trans (by simp [go_sem])
  go_wp2_with fail
  refine wp_loop_rounds 1 ?_; rw [rounds_succ]
  go_wp2_with fail
  refine wp_loop_rounds 1 ?_; rw [rounds_succ]
  go_wp2_with fail
  go_ret
  exact ⟨by rw [HE.out]; rfl, hW1⟩
set_option maxRecDepth 100000 in
set_option maxHeartbeats 3000000 in
theorem rright_odd (k num : Int) (t : ByteArray) (ks : List ByteArray) (ns : List Nd) (A A2 : Option Addr) (ck cc : Nat) (xs : List Value) (w : World) (B : Nat) (deep : Int)
    (hks : Reads w B 1 A ks.length (ks.map Value.string)) (hxs : Reads w B 5 A2 ns.length xs) (hns : NdsIs w B ns xs) (ht : t.size ≤ 9223372036854775807) (hsz : ∀ s ∈ ks, s.size ≤ 9223372036854775807) (hk1 : ks.length ≤ 9223372036854775807) (hk2 : ns.length ≤ 9223372036854775807)
    (hB : B ≤ w.heap.size) (d0 : 0 ≤ deep) (d1 : deep ≤ 24) (HIH : Hid (RrightHyp B ns)) (hk : k < 1 ∨ 7 < k) :
    Calls Tryd.prog 27 #[.agg #[.int .i64 k, .int .i64 num, .string t, .slice A ks.length ck, .slice A2 ns.length cc], .int .i64 deep] w (BoolBel (rightD (.mk k num t ks ns) deep) w) := by
  have hW := Below.refl w.heap.size w
  have HV : Hid (_ = _) := rightD_eq k num t ks ns deep
  have HVC : Hid (∀ w' : World, Calls Tryd.prog 48 #[.string t] w' fun e w'' => e = .returned (.bool (validB t.toList)) ∧ Below w'.heap.size w' w'') := fun w' => rvalid_any t w' ht
  have hA : Below w.heap.size w (w.alloc (.cells #[.int .i64 k, .int .i64 num, .string t, .slice A ks.length ck, .slice A2 ns.length cc] 25)) := hW.alloc hW.size _
  generalize rightD (.mk k num t ks ns) deep = V at *
  have e : ∀ m : Int, 1 ≤ m → m ≤ 7 → (k == m) = false := fun m h1 h2 => by simp; omega
  have HE : Hid (V = false) := by show _ = _; rw [HV.out]; simp [e 1 (by omega) (by omega), e 2 (by omega) (by omega), e 3 (by omega) (by omega), e 4 (by omega) (by omega), e 5 (by omega) (by omega), e 6 (by omega) (by omega), e 7 (by omega) (by omega)]
  clear HV hks hxs hns hsz HIH e
  rcases hk with hk | hk
  · go_enter Tryd.func27, Tryd.ntmps27
    go_wp2_with fail
    go_ret
    exact ⟨by rw [HE.out]; rfl, hA⟩
  · go_enter Tryd.func27, Tryd.ntmps27
    go_wp2_with fail
    go_ret
    exact ⟨by rw [HE.out]; rfl, hA⟩
end Go.Proofs.YtofkdeojabongaaDoor
