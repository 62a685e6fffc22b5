/- The walk of canon's right: the induction. -/
import Derived.Test.YtofkdeojabongaaDoorRight1
namespace Go.Proofs.YtofkdeojabongaaDoor
open Go.RowKit Go.PlainAid
set_option linter.unusedVariables false
set_option linter.unusedSimpArgs false
set_option maxRecDepth 100000 in
set_option maxHeartbeats 1000000 in
theorem sContainsFunc_right (ns : List Nd) (A : Option Addr) (cc : Nat) (xs : List Value) (w : World) (B : Nat) (deep : Int) (p : Addr) (hxs : Reads w B 5 A ns.length xs) (hns : NdsIs w B ns xs) (hB : B ≤ w.heap.size) (hk : ns.length ≤ 9223372036854775807)
    (hc : w.cell? p = some (.int .i64 deep)) (hp : p.block < w.heap.size) (d0 : 0 ≤ deep) (d1 : deep < 24)
    (HIH : Hid (∀ (i : Nat) (n : Nd) (cs : List Value) (w' : World), ns[i]? = some n → NdIs w' B n cs → B ≤ w'.heap.size → RightC cs.toArray (deep + 1) (rightD n (deep + 1)) w')) :
    Calls Tryd.prog 46 #[.slice A ns.length cc, .func (.func 47) #[] #[.pointer (some p)]] w (BoolBel (!rightLD ns (deep + 1)) w) := by
  have HC := Lib.hid (sIndexFunc_right ns A cc xs w B deep p hxs hns hB hk hc hp d0 d1 HIH)
  clear hxs hns hc d0 d1 HIH
  generalize rightLD ns (deep + 1) = V at *
  go_enter Tryd.func46, Tryd.ntmps46
  go_wp2_with fail
  refine HC.out.mono ?_; rintro e w1 ⟨v, rfl, hv, hw1⟩
  go_wp2_with fail
  go_ret
  exact ⟨by first | rfl | (rw [← hv]), hw1⟩
def RightHyp (B : Nat) (ns : List Nd) : Prop := ∀ (i : Nat) (n : Nd) (cs : List Value) (w' : World) (deep : Int), ns[i]? = some n → NdIs w' B n cs → B ≤ w'.heap.size → 0 ≤ deep → deep ≤ 24 → RightC cs.toArray deep (rightD n deep) w'
set_option maxRecDepth 100000 in
set_option maxHeartbeats 3000000 in
theorem cright_step (k num : Int) (t : ByteArray) (ks : List ByteArray) (ns : List Nd) (A A2 : Option Addr) (ck cc : Nat) (xs : List Value) (w : World) (B : Nat) (deep : Int)
    (hks : Reads w B 1 A ks.length (ks.map Value.string)) (hxs : Reads w B 5 A2 ns.length xs) (hns : NdsIs w B ns xs) (ht : t.size ≤ 9223372036854775807) (hsz : ∀ s ∈ ks, s.size ≤ 9223372036854775807) (hk1 : ks.length ≤ 9223372036854775807) (hk2 : ns.length ≤ 9223372036854775807)
    (hB : B ≤ w.heap.size) (d0 : 0 ≤ deep) (d1 : deep ≤ 24) (HIH : Hid (RightHyp B ns)) :
    Calls Tryd.prog 26 #[.agg #[.int .i64 k, .int .i64 num, .string t, .slice A ks.length ck, .slice A2 ns.length cc], .int .i64 deep] w (BoolBel (rightD (.mk k num t ks ns) deep) w) := by
  have hW := Below.refl w.heap.size w
  have HV : Hid (rightD (.mk k num t ks ns) deep = (bareF k num t ks.length ns.length &&
    (k == 1 || k == 2 || k == 3 || (k == 4 && decide (-9007199254740991 ≤ num ∧ num ≤ 9007199254740991)) || (k == 5 && validB t.toList) ||
      ((k == 6 || k == 7) && decide (deep < 24) && (k == 6 || (decide (ks.length = ns.length) && keysB ks)) && rightLD ns (deep + 1))))) := by
    show _ = _
    unfold rightLD rightD
    conv => lhs; unfold rightN
  generalize rightD (.mk k num t ks ns) deep = V at *
  have hA : Below w.heap.size w ((w.alloc (.cells #[.int .i64 k, .int .i64 num, .string t, .slice A ks.length ck, .slice A2 ns.length cc] 25)).alloc (.cells #[.int .i64 deep] 3)) := (hW.alloc hW.size _).alloc (by simp) _
  have HKC : Hid (∀ w', Below w.heap.size w w' → Calls Tryd.prog 45 #[.slice A ks.length ck] w' fun e w'' => e = .returned (.bool (keysB ks)) ∧ Below w'.heap.size w' w'') := fun w' hb =>
    keys_any ks A ck B w' (hks.keep fun p hp => hb.cell (by omega)) hsz hk1 (by have := hb.size; omega)
  have HVC : Hid (∀ w' : World, Calls Tryd.prog 44 #[.string t] w' fun e w'' => e = .returned (.bool (validB t.toList)) ∧ Below w'.heap.size w' w'') := fun w' => valid_any t w' ht
  have HCC : Hid (∀ w' p, deep < 24 → Below w.heap.size w w' → w'.cell? p = some (.int .i64 deep) → p.block < w'.heap.size → Calls Tryd.prog 46 #[.slice A2 ns.length cc, .func (.func 47) #[] #[.pointer (some p)]] w' (BoolBel (!rightLD ns (deep + 1)) w')) := fun w' p hd hb hc hp =>
    sContainsFunc_right ns A2 cc xs w' B deep p (hxs.keep fun p hp => hb.cell (by omega)) (NdsIs.keep (fun p hp => hb.cell (by omega)) _ _ hns) (by have := hb.size; omega) hk2 hc hp d0 hd
      (fun i n cs w'' h1 h2 h3 => HIH.out i n cs w'' (deep + 1) h1 h2 h3 (by omega) (by omega))
  have HBC : Hid (∀ w' : World, Calls Tryd.prog 43 #[.agg #[.int .i64 k, .int .i64 num, .string t, .slice A ks.length ck, .slice A2 ns.length cc]] w' fun e w'' => e = .returned (.bool (bareF k num t ks.length ns.length)) ∧ Below w'.heap.size w' w'') := fun w' =>
    bare_any k num t A A2 ks.length ns.length ck cc w'
  clear hks hxs hns hsz HIH
  generalize hvl : validB t.toList = vl at *
  generalize hkb : keysB ks = kb at *
  generalize hrl : rightLD ns (deep + 1) = rl at *
  clear hvl hkb hrl
  cases hb : bareF k num t ks.length ns.length with
  | false =>
    have HE : Hid (V = false) := by show _ = _; rw [HV.out, hb]; rfl
    rw [hb] at HBC
    clear HV hb
    go_enter Tryd.func26, Tryd.ntmps26
    go_wp2_with fail
    refine (HBC.out _).mono ?_; rintro e w1 ⟨rfl, hw1⟩
    go_wp2_with fail
    go_ret
    exact ⟨by rw [HE.out]; rfl, hA.trans (hw1.mono (by simp; omega))⟩
  | true =>
  rw [hb] at HBC HV
  clear hb
  by_cases h1 : k = 1
  · subst h1
    have HE : Hid (V = true) := by show _ = _; rw [HV.out]; simp
    clear HV
    go_enter Tryd.func26, Tryd.ntmps26
    go_wp2_with fail
    refine (HBC.out _).mono ?_; rintro e w1 ⟨rfl, hw1⟩
    have hW1 := hA.trans (hw1.mono (by simp; omega))
    have c0 : w1.cell? ⟨w.heap.size, 0, none⟩ = some (.int .i64 1) := (hw1.cell (by simp; omega)).trans (by simp [go_sem])
    have c1 : w1.cell? ⟨w.heap.size, 1, none⟩ = some (.int .i64 num) := (hw1.cell (by simp; omega)).trans (by simp [go_sem])
    have c2 : w1.cell? ⟨w.heap.size, 2, none⟩ = some (.string t) := (hw1.cell (by simp; omega)).trans (by simp [go_sem])
    have c3 : w1.cell? ⟨w.heap.size, 3, none⟩ = some (.slice A ks.length ck) := (hw1.cell (by simp; omega)).trans (by simp [go_sem])
    have c4 : w1.cell? ⟨w.heap.size, 4, none⟩ = some (.slice A2 ns.length cc) := (hw1.cell (by simp; omega)).trans (by simp [go_sem])
    have cd : w1.cell? ⟨w.heap.size + 1, 0, none⟩ = some (.int .i64 deep) := (hw1.cell (by simp)).trans (by simp [go_sem])
    have hs1 : w.heap.size + 2 ≤ w1.heap.size := by have := hw1.size; simp at this; omega
    go_wp2_with fail
    go_ret
    exact ⟨by rw [HE.out]; rfl, hW1⟩
  by_cases h2 : k = 2
  · subst h2
    have HE : Hid (V = true) := by show _ = _; rw [HV.out]; simp
    clear HV
    go_enter Tryd.func26, Tryd.ntmps26
    go_wp2_with fail
    refine (HBC.out _).mono ?_; rintro e w1 ⟨rfl, hw1⟩
    have hW1 := hA.trans (hw1.mono (by simp; omega))
    have c0 : w1.cell? ⟨w.heap.size, 0, none⟩ = some (.int .i64 2) := (hw1.cell (by simp; omega)).trans (by simp [go_sem])
    have c1 : w1.cell? ⟨w.heap.size, 1, none⟩ = some (.int .i64 num) := (hw1.cell (by simp; omega)).trans (by simp [go_sem])
    have c2 : w1.cell? ⟨w.heap.size, 2, none⟩ = some (.string t) := (hw1.cell (by simp; omega)).trans (by simp [go_sem])
    have c3 : w1.cell? ⟨w.heap.size, 3, none⟩ = some (.slice A ks.length ck) := (hw1.cell (by simp; omega)).trans (by simp [go_sem])
    have c4 : w1.cell? ⟨w.heap.size, 4, none⟩ = some (.slice A2 ns.length cc) := (hw1.cell (by simp; omega)).trans (by simp [go_sem])
    have cd : w1.cell? ⟨w.heap.size + 1, 0, none⟩ = some (.int .i64 deep) := (hw1.cell (by simp)).trans (by simp [go_sem])
    have hs1 : w.heap.size + 2 ≤ w1.heap.size := by have := hw1.size; simp at this; omega
    go_wp2_with fail
    go_ret
    exact ⟨by rw [HE.out]; rfl, hW1⟩
  by_cases h3 : k = 3
  · subst h3
    have HE : Hid (V = true) := by show _ = _; rw [HV.out]; simp
    clear HV
    go_enter Tryd.func26, Tryd.ntmps26
    go_wp2_with fail
    refine (HBC.out _).mono ?_; rintro e w1 ⟨rfl, hw1⟩
    have hW1 := hA.trans (hw1.mono (by simp; omega))
    have c0 : w1.cell? ⟨w.heap.size, 0, none⟩ = some (.int .i64 3) := (hw1.cell (by simp; omega)).trans (by simp [go_sem])
    have c1 : w1.cell? ⟨w.heap.size, 1, none⟩ = some (.int .i64 num) := (hw1.cell (by simp; omega)).trans (by simp [go_sem])
    have c2 : w1.cell? ⟨w.heap.size, 2, none⟩ = some (.string t) := (hw1.cell (by simp; omega)).trans (by simp [go_sem])
    have c3 : w1.cell? ⟨w.heap.size, 3, none⟩ = some (.slice A ks.length ck) := (hw1.cell (by simp; omega)).trans (by simp [go_sem])
    have c4 : w1.cell? ⟨w.heap.size, 4, none⟩ = some (.slice A2 ns.length cc) := (hw1.cell (by simp; omega)).trans (by simp [go_sem])
    have cd : w1.cell? ⟨w.heap.size + 1, 0, none⟩ = some (.int .i64 deep) := (hw1.cell (by simp)).trans (by simp [go_sem])
    have hs1 : w.heap.size + 2 ≤ w1.heap.size := by have := hw1.size; simp at this; omega
    go_wp2_with fail
    go_ret
    exact ⟨by rw [HE.out]; rfl, hW1⟩
  by_cases h4 : k = 4
  · subst h4
    cases e1 : decide (-9007199254740991 ≤ num) with
    | false =>
      have HE : Hid (V = false) := by show _ = _; rw [HV.out]; (have h9 := of_decide_eq_false e1); simp; intro h; exact absurd h h9
      clear HV
      go_enter Tryd.func26, Tryd.ntmps26
      go_wp2_with fail
      refine (HBC.out _).mono ?_; rintro e w1 ⟨rfl, hw1⟩
      have hW1 := hA.trans (hw1.mono (by simp; omega))
      have c0 : w1.cell? ⟨w.heap.size, 0, none⟩ = some (.int .i64 4) := (hw1.cell (by simp; omega)).trans (by simp [go_sem])
      have c1 : w1.cell? ⟨w.heap.size, 1, none⟩ = some (.int .i64 num) := (hw1.cell (by simp; omega)).trans (by simp [go_sem])
      have c2 : w1.cell? ⟨w.heap.size, 2, none⟩ = some (.string t) := (hw1.cell (by simp; omega)).trans (by simp [go_sem])
      have c3 : w1.cell? ⟨w.heap.size, 3, none⟩ = some (.slice A ks.length ck) := (hw1.cell (by simp; omega)).trans (by simp [go_sem])
      have c4 : w1.cell? ⟨w.heap.size, 4, none⟩ = some (.slice A2 ns.length cc) := (hw1.cell (by simp; omega)).trans (by simp [go_sem])
      have cd : w1.cell? ⟨w.heap.size + 1, 0, none⟩ = some (.int .i64 deep) := (hw1.cell (by simp)).trans (by simp [go_sem])
      have hs1 : w.heap.size + 2 ≤ w1.heap.size := by have := hw1.size; simp at this; omega
      go_wp2_with fail
      go_ret
      exact ⟨by rw [HE.out]; rfl, hW1⟩
    | true =>
    cases e2 : decide (num ≤ 9007199254740991) with
    | false =>
      have HE : Hid (V = false) := by show _ = _; rw [HV.out]; (have h9 := of_decide_eq_false e2); simp; intro h; omega
      clear HV
      go_enter Tryd.func26, Tryd.ntmps26
      go_wp2_with fail
      refine (HBC.out _).mono ?_; rintro e w1 ⟨rfl, hw1⟩
      have hW1 := hA.trans (hw1.mono (by simp; omega))
      have c0 : w1.cell? ⟨w.heap.size, 0, none⟩ = some (.int .i64 4) := (hw1.cell (by simp; omega)).trans (by simp [go_sem])
      have c1 : w1.cell? ⟨w.heap.size, 1, none⟩ = some (.int .i64 num) := (hw1.cell (by simp; omega)).trans (by simp [go_sem])
      have c2 : w1.cell? ⟨w.heap.size, 2, none⟩ = some (.string t) := (hw1.cell (by simp; omega)).trans (by simp [go_sem])
      have c3 : w1.cell? ⟨w.heap.size, 3, none⟩ = some (.slice A ks.length ck) := (hw1.cell (by simp; omega)).trans (by simp [go_sem])
      have c4 : w1.cell? ⟨w.heap.size, 4, none⟩ = some (.slice A2 ns.length cc) := (hw1.cell (by simp; omega)).trans (by simp [go_sem])
      have cd : w1.cell? ⟨w.heap.size + 1, 0, none⟩ = some (.int .i64 deep) := (hw1.cell (by simp)).trans (by simp [go_sem])
      have hs1 : w.heap.size + 2 ≤ w1.heap.size := by have := hw1.size; simp at this; omega
      go_wp2_with fail
      go_ret
      exact ⟨by rw [HE.out]; rfl, hW1⟩
    | true =>
      have HE : Hid (V = true) := by show _ = _; rw [HV.out]; simp [(by simpa using e1 : -9007199254740991 ≤ num), (by simpa using e2 : num ≤ 9007199254740991)]
      clear HV
      go_enter Tryd.func26, Tryd.ntmps26
      go_wp2_with fail
      refine (HBC.out _).mono ?_; rintro e w1 ⟨rfl, hw1⟩
      have hW1 := hA.trans (hw1.mono (by simp; omega))
      have c0 : w1.cell? ⟨w.heap.size, 0, none⟩ = some (.int .i64 4) := (hw1.cell (by simp; omega)).trans (by simp [go_sem])
      have c1 : w1.cell? ⟨w.heap.size, 1, none⟩ = some (.int .i64 num) := (hw1.cell (by simp; omega)).trans (by simp [go_sem])
      have c2 : w1.cell? ⟨w.heap.size, 2, none⟩ = some (.string t) := (hw1.cell (by simp; omega)).trans (by simp [go_sem])
      have c3 : w1.cell? ⟨w.heap.size, 3, none⟩ = some (.slice A ks.length ck) := (hw1.cell (by simp; omega)).trans (by simp [go_sem])
      have c4 : w1.cell? ⟨w.heap.size, 4, none⟩ = some (.slice A2 ns.length cc) := (hw1.cell (by simp; omega)).trans (by simp [go_sem])
      have cd : w1.cell? ⟨w.heap.size + 1, 0, none⟩ = some (.int .i64 deep) := (hw1.cell (by simp)).trans (by simp [go_sem])
      have hs1 : w.heap.size + 2 ≤ w1.heap.size := by have := hw1.size; simp at this; omega
      go_wp2_with fail
      go_ret
      exact ⟨by rw [HE.out]; rfl, hW1⟩
  by_cases h5 : k = 5
  · subst h5
    have HE : Hid (V = vl) := by show _ = _; rw [HV.out]; simp
    clear HV
    go_enter Tryd.func26, Tryd.ntmps26
    go_wp2_with fail
    refine (HBC.out _).mono ?_; rintro e w1 ⟨rfl, hw1⟩
    have hW1 := hA.trans (hw1.mono (by simp; omega))
    have c0 : w1.cell? ⟨w.heap.size, 0, none⟩ = some (.int .i64 5) := (hw1.cell (by simp; omega)).trans (by simp [go_sem])
    have c1 : w1.cell? ⟨w.heap.size, 1, none⟩ = some (.int .i64 num) := (hw1.cell (by simp; omega)).trans (by simp [go_sem])
    have c2 : w1.cell? ⟨w.heap.size, 2, none⟩ = some (.string t) := (hw1.cell (by simp; omega)).trans (by simp [go_sem])
    have c3 : w1.cell? ⟨w.heap.size, 3, none⟩ = some (.slice A ks.length ck) := (hw1.cell (by simp; omega)).trans (by simp [go_sem])
    have c4 : w1.cell? ⟨w.heap.size, 4, none⟩ = some (.slice A2 ns.length cc) := (hw1.cell (by simp; omega)).trans (by simp [go_sem])
    have cd : w1.cell? ⟨w.heap.size + 1, 0, none⟩ = some (.int .i64 deep) := (hw1.cell (by simp)).trans (by simp [go_sem])
    have hs1 : w.heap.size + 2 ≤ w1.heap.size := by have := hw1.size; simp at this; omega
    go_wp2_with fail
    refine (HVC.out _).mono ?_; rintro e w2 ⟨rfl, hw2⟩
    go_wp2_with fail
    go_ret
    exact ⟨by rw [HE.out]; rfl, hW1.trans (hw2.mono hW1.size)⟩
  by_cases h6 : k = 6
  · subst h6
    by_cases hd : 24 ≤ deep
    · have hd' : ¬ deep < 24 := by omega
      have HE : Hid (V = false) := by show _ = _; rw [HV.out]; simp [hd']
      clear HV
      go_enter Tryd.func26, Tryd.ntmps26
      go_wp2_with fail
      refine (HBC.out _).mono ?_; rintro e w1 ⟨rfl, hw1⟩
      have hW1 := hA.trans (hw1.mono (by simp; omega))
      have c0 : w1.cell? ⟨w.heap.size, 0, none⟩ = some (.int .i64 6) := (hw1.cell (by simp; omega)).trans (by simp [go_sem])
      have c1 : w1.cell? ⟨w.heap.size, 1, none⟩ = some (.int .i64 num) := (hw1.cell (by simp; omega)).trans (by simp [go_sem])
      have c2 : w1.cell? ⟨w.heap.size, 2, none⟩ = some (.string t) := (hw1.cell (by simp; omega)).trans (by simp [go_sem])
      have c3 : w1.cell? ⟨w.heap.size, 3, none⟩ = some (.slice A ks.length ck) := (hw1.cell (by simp; omega)).trans (by simp [go_sem])
      have c4 : w1.cell? ⟨w.heap.size, 4, none⟩ = some (.slice A2 ns.length cc) := (hw1.cell (by simp; omega)).trans (by simp [go_sem])
      have cd : w1.cell? ⟨w.heap.size + 1, 0, none⟩ = some (.int .i64 deep) := (hw1.cell (by simp)).trans (by simp [go_sem])
      have hs1 : w.heap.size + 2 ≤ w1.heap.size := by have := hw1.size; simp at this; omega
      go_wp2_with fail
      go_ret
      exact ⟨by rw [HE.out]; rfl, hW1⟩
    · have hd' : deep < 24 := by omega
      have HE : Hid (V = rl) := by show _ = _; rw [HV.out]; simp [hd']
      clear HV
      go_enter Tryd.func26, Tryd.ntmps26
      go_wp2_with fail
      refine (HBC.out _).mono ?_; rintro e w1 ⟨rfl, hw1⟩
      have hW1 := hA.trans (hw1.mono (by simp; omega))
      have c0 : w1.cell? ⟨w.heap.size, 0, none⟩ = some (.int .i64 6) := (hw1.cell (by simp; omega)).trans (by simp [go_sem])
      have c1 : w1.cell? ⟨w.heap.size, 1, none⟩ = some (.int .i64 num) := (hw1.cell (by simp; omega)).trans (by simp [go_sem])
      have c2 : w1.cell? ⟨w.heap.size, 2, none⟩ = some (.string t) := (hw1.cell (by simp; omega)).trans (by simp [go_sem])
      have c3 : w1.cell? ⟨w.heap.size, 3, none⟩ = some (.slice A ks.length ck) := (hw1.cell (by simp; omega)).trans (by simp [go_sem])
      have c4 : w1.cell? ⟨w.heap.size, 4, none⟩ = some (.slice A2 ns.length cc) := (hw1.cell (by simp; omega)).trans (by simp [go_sem])
      have cd : w1.cell? ⟨w.heap.size + 1, 0, none⟩ = some (.int .i64 deep) := (hw1.cell (by simp)).trans (by simp [go_sem])
      have hs1 : w.heap.size + 2 ≤ w1.heap.size := by have := hw1.size; simp at this; omega
      go_wp2_with fail
      refine (HCC.out _ _ hd' hW1 cd (by simp; omega)).mono ?_; rintro e w2 ⟨rfl, hw2⟩
      go_wp2_with fail
      go_ret
      exact ⟨by rw [HE.out]; simp, hW1.trans (hw2.mono hW1.size)⟩
  by_cases h7 : k = 7
  · subst h7
    by_cases hd : 24 ≤ deep
    · have hd' : ¬ deep < 24 := by omega
      have HE : Hid (V = false) := by show _ = _; rw [HV.out]; simp [hd']
      clear HV
      go_enter Tryd.func26, Tryd.ntmps26
      go_wp2_with fail
      refine (HBC.out _).mono ?_; rintro e w1 ⟨rfl, hw1⟩
      have hW1 := hA.trans (hw1.mono (by simp; omega))
      have c0 : w1.cell? ⟨w.heap.size, 0, none⟩ = some (.int .i64 7) := (hw1.cell (by simp; omega)).trans (by simp [go_sem])
      have c1 : w1.cell? ⟨w.heap.size, 1, none⟩ = some (.int .i64 num) := (hw1.cell (by simp; omega)).trans (by simp [go_sem])
      have c2 : w1.cell? ⟨w.heap.size, 2, none⟩ = some (.string t) := (hw1.cell (by simp; omega)).trans (by simp [go_sem])
      have c3 : w1.cell? ⟨w.heap.size, 3, none⟩ = some (.slice A ks.length ck) := (hw1.cell (by simp; omega)).trans (by simp [go_sem])
      have c4 : w1.cell? ⟨w.heap.size, 4, none⟩ = some (.slice A2 ns.length cc) := (hw1.cell (by simp; omega)).trans (by simp [go_sem])
      have cd : w1.cell? ⟨w.heap.size + 1, 0, none⟩ = some (.int .i64 deep) := (hw1.cell (by simp)).trans (by simp [go_sem])
      have hs1 : w.heap.size + 2 ≤ w1.heap.size := by have := hw1.size; simp at this; omega
      go_wp2_with fail
      go_ret
      exact ⟨by rw [HE.out]; rfl, hW1⟩
    have hd' : deep < 24 := by omega
    by_cases hl : ks.length = ns.length
    case neg =>
      have n4 : ((ks.length : Int) != (ns.length : Int)) = true := by rw [bne_iff_ne]; omega
      have HE : Hid (V = false) := by show _ = _; rw [HV.out]; simp [hl]
      clear HV
      go_enter Tryd.func26, Tryd.ntmps26
      go_wp2_with fail
      refine (HBC.out _).mono ?_; rintro e w1 ⟨rfl, hw1⟩
      have hW1 := hA.trans (hw1.mono (by simp; omega))
      have c0 : w1.cell? ⟨w.heap.size, 0, none⟩ = some (.int .i64 7) := (hw1.cell (by simp; omega)).trans (by simp [go_sem])
      have c1 : w1.cell? ⟨w.heap.size, 1, none⟩ = some (.int .i64 num) := (hw1.cell (by simp; omega)).trans (by simp [go_sem])
      have c2 : w1.cell? ⟨w.heap.size, 2, none⟩ = some (.string t) := (hw1.cell (by simp; omega)).trans (by simp [go_sem])
      have c3 : w1.cell? ⟨w.heap.size, 3, none⟩ = some (.slice A ks.length ck) := (hw1.cell (by simp; omega)).trans (by simp [go_sem])
      have c4 : w1.cell? ⟨w.heap.size, 4, none⟩ = some (.slice A2 ns.length cc) := (hw1.cell (by simp; omega)).trans (by simp [go_sem])
      have cd : w1.cell? ⟨w.heap.size + 1, 0, none⟩ = some (.int .i64 deep) := (hw1.cell (by simp)).trans (by simp [go_sem])
      have hs1 : w.heap.size + 2 ≤ w1.heap.size := by have := hw1.size; simp at this; omega
      go_wp2_with fail
      go_ret
      exact ⟨by rw [HE.out]; rfl, hW1⟩
    have n4 : ((ks.length : Int) != (ns.length : Int)) = false := by rw [bne_eq_false_iff_eq]; omega
    cases kb with
    | false =>
      have hl2 : decide (ks.length = ns.length) = true := decide_eq_true hl
      clear hl
      have HE : Hid (V = false) := by show _ = _; rw [HV.out]; simp
      clear HV
      go_enter Tryd.func26, Tryd.ntmps26
      go_wp2_with fail
      refine (HBC.out _).mono ?_; rintro e w1 ⟨rfl, hw1⟩
      have hW1 := hA.trans (hw1.mono (by simp; omega))
      have c0 : w1.cell? ⟨w.heap.size, 0, none⟩ = some (.int .i64 7) := (hw1.cell (by simp; omega)).trans (by simp [go_sem])
      have c1 : w1.cell? ⟨w.heap.size, 1, none⟩ = some (.int .i64 num) := (hw1.cell (by simp; omega)).trans (by simp [go_sem])
      have c2 : w1.cell? ⟨w.heap.size, 2, none⟩ = some (.string t) := (hw1.cell (by simp; omega)).trans (by simp [go_sem])
      have c3 : w1.cell? ⟨w.heap.size, 3, none⟩ = some (.slice A ks.length ck) := (hw1.cell (by simp; omega)).trans (by simp [go_sem])
      have c4 : w1.cell? ⟨w.heap.size, 4, none⟩ = some (.slice A2 ns.length cc) := (hw1.cell (by simp; omega)).trans (by simp [go_sem])
      have cd : w1.cell? ⟨w.heap.size + 1, 0, none⟩ = some (.int .i64 deep) := (hw1.cell (by simp)).trans (by simp [go_sem])
      have hs1 : w.heap.size + 2 ≤ w1.heap.size := by have := hw1.size; simp at this; omega
      go_wp2_with fail
      refine (HKC.out _ hW1).mono ?_; rintro e w2 ⟨rfl, hw2⟩
      go_wp2_with fail
      go_ret
      exact ⟨by rw [HE.out]; rfl, hW1.trans (hw2.mono hW1.size)⟩
    | true =>
      have hl2 : decide (ks.length = ns.length) = true := decide_eq_true hl
      clear hl
      have HE : Hid (V = rl) := by show _ = _; rw [HV.out]; simp [hd', hl2]
      clear HV
      go_enter Tryd.func26, Tryd.ntmps26
      go_wp2_with fail
      refine (HBC.out _).mono ?_; rintro e w1 ⟨rfl, hw1⟩
      have hW1 := hA.trans (hw1.mono (by simp; omega))
      have c0 : w1.cell? ⟨w.heap.size, 0, none⟩ = some (.int .i64 7) := (hw1.cell (by simp; omega)).trans (by simp [go_sem])
      have c1 : w1.cell? ⟨w.heap.size, 1, none⟩ = some (.int .i64 num) := (hw1.cell (by simp; omega)).trans (by simp [go_sem])
      have c2 : w1.cell? ⟨w.heap.size, 2, none⟩ = some (.string t) := (hw1.cell (by simp; omega)).trans (by simp [go_sem])
      have c3 : w1.cell? ⟨w.heap.size, 3, none⟩ = some (.slice A ks.length ck) := (hw1.cell (by simp; omega)).trans (by simp [go_sem])
      have c4 : w1.cell? ⟨w.heap.size, 4, none⟩ = some (.slice A2 ns.length cc) := (hw1.cell (by simp; omega)).trans (by simp [go_sem])
      have cd : w1.cell? ⟨w.heap.size + 1, 0, none⟩ = some (.int .i64 deep) := (hw1.cell (by simp)).trans (by simp [go_sem])
      have hs1 : w.heap.size + 2 ≤ w1.heap.size := by have := hw1.size; simp at this; omega
      go_wp2_with fail
      refine (HKC.out _ hW1).mono ?_; rintro e w2 ⟨rfl, hw2⟩
      have hW2 := hW1.trans (hw2.mono hW1.size)
      have g4 : w2.cell? ⟨w.heap.size, 4, none⟩ = some (.slice A2 ns.length cc) := (hw2.cell (by simp; omega)).trans c4
      have gd : w2.cell? ⟨w.heap.size + 1, 0, none⟩ = some (.int .i64 deep) := (hw2.cell (by simp; omega)).trans cd
      have hs2 := hw2.size
      go_wp2_with fail
      refine (HCC.out _ _ hd' hW2 gd (by simp; omega)).mono ?_; rintro e w3 ⟨rfl, hw3⟩
      go_wp2_with fail
      go_ret
      exact ⟨by rw [HE.out]; simp, hW2.trans (hw3.mono hW2.size)⟩
  have HE : Hid (V = false) := by show _ = _; rw [HV.out]; simp [h1, h2, h3, h4, h5, h6, h7]
  clear HV
  go_enter Tryd.func26, Tryd.ntmps26
  go_wp2_with fail
  refine (HBC.out _).mono ?_; rintro e w1 ⟨rfl, hw1⟩
  have hW1 := hA.trans (hw1.mono (by simp; omega))
  have c0 : w1.cell? ⟨w.heap.size, 0, none⟩ = some (.int .i64 k) := (hw1.cell (by simp; omega)).trans (by simp [go_sem])
  have c1 : w1.cell? ⟨w.heap.size, 1, none⟩ = some (.int .i64 num) := (hw1.cell (by simp; omega)).trans (by simp [go_sem])
  have c2 : w1.cell? ⟨w.heap.size, 2, none⟩ = some (.string t) := (hw1.cell (by simp; omega)).trans (by simp [go_sem])
  have c3 : w1.cell? ⟨w.heap.size, 3, none⟩ = some (.slice A ks.length ck) := (hw1.cell (by simp; omega)).trans (by simp [go_sem])
  have c4 : w1.cell? ⟨w.heap.size, 4, none⟩ = some (.slice A2 ns.length cc) := (hw1.cell (by simp; omega)).trans (by simp [go_sem])
  have cd : w1.cell? ⟨w.heap.size + 1, 0, none⟩ = some (.int .i64 deep) := (hw1.cell (by simp)).trans (by simp [go_sem])
  have hs1 : w.heap.size + 2 ≤ w1.heap.size := by have := hw1.size; simp at this; omega
  go_wp2_with fail
  go_ret
  exact ⟨by rw [HE.out]; rfl, hW1⟩
theorem cright_any : ∀ (m : Nat) (n : Nd), n.count ≤ m → ∀ (B : Nat) (cs : List Value) (w : World) (deep : Int), NdIs w B n cs → B ≤ w.heap.size → 0 ≤ deep → deep ≤ 24 → RightC cs.toArray deep (rightD n deep) w := by
  intro m
  induction m with
  | zero => intro n hm; have := n.count_pos; omega
  | succ m ih =>
    intro n hm B cs w deep hn hB d0 d1
    cases n with
    | mk k num t ks ns =>
      unfold NdIs at hn
      obtain ⟨A, ck, A2, cc, xs, rfl, hks, hxs, hns, ik, inn, ht, hkl, hk, hmm⟩ := hn
      unfold maxLen at *
      refine cright_step k num t ks ns A A2 ck cc xs w B deep hks hxs hns ht hkl hk hmm hB d0 d1 ?_
      intro i n cs w' deep h1 h2 h3 h4 h5
      refine ih n ?_ B cs w' deep h2 h3 h4 h5
      have := Nd.counts_get ns i n h1
      simp only [Nd.count] at hm; omega
/-- canon's Right -/
theorem CRight_any (n : Nd) (cs : List Value) (w : World) (B : Nat) (hn : NdIs w B n cs) (hB : B ≤ w.heap.size) : Calls Tryd.prog 14 #[.agg cs.toArray] w (BoolBel (rightD n 0) w) := by
  have hl := hn.len
  have hW := Below.refl w.heap.size w
  match cs, hl with
  | [v0, v1, v2, v3, v4], _ =>
    have HC : Hid (∀ w', Below w.heap.size w w' → RightC #[v0, v1, v2, v3, v4] 0 (rightD n 0) w') := fun w' hb =>
      cright_any n.count n (Nat.le_refl _) B [v0, v1, v2, v3, v4] w' 0 (hn.below (hb.mono (by omega))) (by have := hb.size; omega) (by omega) (by omega)
    obtain ⟨x0, x1, x2, x3, x4, x5, x6, x7, x8, rfl, rfl, rfl, rfl, rfl⟩ := hn.form
    show Calls Tryd.prog 14 #[.agg #[_, _, _, _, _]] w (BoolBel _ w)
    clear hn
    generalize rightD n 0 = W at *
    go_enter Tryd.func14, Tryd.ntmps14
    go_wp2_with fail
    refine (HC.out _ (hW.alloc hW.size _)).mono ?_; rintro e w1 ⟨rfl, hw1⟩
    go_wp2_with fail
    go_ret
    exact ⟨rfl, nextA hW hw1⟩
end Go.Proofs.YtofkdeojabongaaDoor
