/- The walk of canon's right. -/
import Derived.Test.YtofkdeojabongaaDoorRight0
namespace Go.Proofs.YtofkdeojabongaaDoor
open Go.RowKit Go.PlainAid
set_option linter.unusedVariables false
set_option linter.unusedSimpArgs false
noncomputable def rightD (n : Nd) (deep : Int) : Bool := rightN 9007199254740991 24 n deep
noncomputable def rightLD (ns : List Nd) (deep : Int) : Bool := rightL 9007199254740991 24 ns deep
theorem rightLD_nil (deep : Int) : rightLD [] deep = true := by unfold rightLD rightL; rfl
theorem rightLD_at (ns : List Nd) (i : Nat) (n : Nd) (deep : Int) (h : ns[i]? = some n) : rightLD (ns.drop i) deep = (rightD n deep && rightLD (ns.drop (i + 1)) deep) := by
  rw [List.drop_eq_getElem_cons (List.getElem?_eq_some_iff.1 h).1, (List.getElem?_eq_some_iff.1 h).2]
  unfold rightLD rightD
  conv => lhs; unfold rightL
def RightC (vs : Array Value) (deep : Int) (b : Bool) (w : World) : Prop := Calls Tryd.prog 26 #[.agg vs, .int .i64 deep] w (BoolBel b w)
def OddC (vs : Array Value) (p : Addr) (b : Bool) (w : World) : Prop := Calls Tryd.prog 47 #[.agg vs, .pointer (some p)] w (BoolBel b w)
set_option maxRecDepth 100000 in
set_option maxHeartbeats 1000000 in
theorem cright1_any (n : Nd) (cs : List Value) (w : World) (B : Nat) (deep : Int) (p : Addr) (hn : NdIs w B n cs) (hB : B ≤ w.heap.size) (hc : w.cell? p = some (.int .i64 deep)) (hp : p.block < w.heap.size) (d0 : 0 ≤ deep) (d1 : deep < 24)
    (HIH : Hid (∀ w', NdIs w' B n cs → B ≤ w'.heap.size → RightC cs.toArray (deep + 1) (rightD n (deep + 1)) w')) : OddC cs.toArray p (!rightD n (deep + 1)) w := by
  have hl := hn.len
  match cs, hl with
  | [v0, v1, v2, v3, v4], _ =>
    have hW := Below.refl w.heap.size w
    have HC : Hid (∀ w', Below w.heap.size w w' → RightC #[v0, v1, v2, v3, v4] (deep + 1) (rightD n (deep + 1)) w') := fun w' hb => HIH.out w' (hn.below (hb.mono hB)) (by have := hb.size; omega)
    obtain ⟨x0, x1, x2, x3, x4, x5, x6, x7, x8, rfl, rfl, rfl, rfl, rfl⟩ := hn.form
    show Calls Tryd.prog 47 #[.agg #[_, _, _, _, _], .pointer (some p)] w (BoolBel _ w)
    have hne : ¬ p.block = w.heap.size := by omega
    clear hn
    generalize rightD n (deep + 1) = V at *
    go_enter Tryd.func47, Tryd.ntmps47
    go_wp2_with fail
    refine (HC.out _ (hW.alloc (Nat.le_refl _) _)).mono ?_; rintro e w1 ⟨rfl, hw1⟩
    go_wp2_with fail
    go_ret
    exact ⟨rfl, nextA hW hw1⟩
def IdxPost (b : Bool) (w : World) (e : Ending) (w' : World) : Prop := ∃ v : Int, e = .returned (.int .i64 v) ∧ decide (0 ≤ v) = !b ∧ Below w.heap.size w w'
set_option maxRecDepth 100000 in
set_option maxHeartbeats 1000000 in
theorem sIndexFunc_right (ns : List Nd) (A : Option Addr) (cc : Nat) (xs : List Value) (w : World) (B : Nat) (deep : Int) (p : Addr) (hxs : Reads w B 5 A ns.length xs) (hns : NdsIs w B ns xs) (hB : B ≤ w.heap.size) (hk : ns.length ≤ 9223372036854775807)
    (hc : w.cell? p = some (.int .i64 deep)) (hp : p.block < w.heap.size) (d0 : 0 ≤ deep) (d1 : deep < 24)
    (HIH : Hid (∀ (i : Nat) (n : Nd) (cs : List Value) (w' : World), ns[i]? = some n → NdIs w' B n cs → B ≤ w'.heap.size → RightC cs.toArray (deep + 1) (rightD n (deep + 1)) w')) :
    Calls Tryd.prog 62 #[.slice A ns.length cc, .func (.func 47) #[] #[.pointer (some p)]] w (IdxPost (rightLD ns (deep + 1)) w) := by
  have hW := Below.refl w.heap.size w
  obtain ⟨V, hV⟩ : ∃ V, V = rightLD ns (deep + 1) := ⟨_, rfl⟩
  rw [← hV]
  have HV : Hid (V = rightLD (ns.drop 0) (deep + 1)) := hV
  have HXS := Lib.hid hxs
  have HNS := Lib.hid hns
  have HD : Hid (0 ≤ deep ∧ deep < 24) := ⟨d0, d1⟩
  have HC := Lib.hid hc
  clear hxs hns hV d0 d1 hc
  go_enter Tryd.func62, Tryd.ntmps62
  go_wp2_with fail
  go_loopw [8] (fun t wr => ∃ (i : Nat), i ≤ ns.length ∧ t = .int .i64 i ∧ Hid (V = rightLD (ns.drop i) (deep + 1)) ∧ Below w.heap.size w wr) (fun t _ => ns.length - (intOf t).toNat)
  case atStart => exact ⟨0, by omega, rfl, HV, hW⟩
  case round =>
    clear hW
    obtain ⟨i, hi, rfl, hv, hW⟩ := hrel
    obtain ⟨wo, rfl⟩ : ∃ wo : World, wo = wr := ⟨_, rfl⟩
    have hsz := hW.size
    by_cases hlt : i < ns.length
    · have hkeep : ∀ p : Addr, p.block < B → wo.cell? p = w.cell? p := fun p hp => hW.cell (by omega)
      obtain ⟨ad, n, v0, v1, v2, v3, v4, rfl, hadb, hni, hnd, e0, e1, e2, e3, e4⟩ := (HXS.out.keep hkeep).nd (NdsIs.keep hkeep _ _ HNS.out) hlt
      have HSTEP := Lib.hid (rightLD_at ns i n (deep + 1) hni)
      have HO : Hid (∀ w', Below wo.heap.size wo w' → OddC #[v0, v1, v2, v3, v4] p (!rightD n (deep + 1)) w') := fun w' hb =>
        cright1_any n [v0, v1, v2, v3, v4] w' B deep p (hnd.below (hb.mono (by omega))) (by have := hb.size; omega) ((hb.cell (by omega)).trans ((hW.cell hp).trans HC.out)) (by have := hb.size; omega) HD.out.1 HD.out.2
          (fun w'' h1 h2 => HIH.out i n [v0, v1, v2, v3, v4] w'' hni h1 h2)
      have HNI := Lib.hid hni
      clear hni hnd hkeep
      generalize rightD n (deep + 1) = b at *
      go_wp2_with fail
      refine (HO.out _ (Below.refl _ _)).mono ?_; rintro e w1 ⟨rfl, hw1⟩
      cases b with
      | false =>
        have HE : Hid (V = false) := by show _ = _; rw [hv.out, HSTEP.out]; rfl
        go_wp2_with fail
        go_ret
        exact ⟨_, rfl, by rw [HE.out]; simp, hW.trans (hw1.mono hsz)⟩
      | true =>
        have HE : Hid (V = rightLD (ns.drop (i + 1)) (deep + 1)) := by show _ = _; rw [hv.out, HSTEP.out]; rfl
        go_wp2_with fail
        go_roundw
        case rel => exact ⟨i + 1, by omega, by go_num, HE, hW.trans (hw1.mono hsz)⟩
        case measure => simp [intOf]; omega
    · have HE : Hid (V = true) := by
        show _ = _
        rw [hv.out, List.drop_eq_nil_of_le (by omega), rightLD_nil]
      go_wp2_with fail
      go_ret
      exact ⟨_, rfl, by rw [HE.out]; rfl, hW⟩
end Go.Proofs.YtofkdeojabongaaDoor
