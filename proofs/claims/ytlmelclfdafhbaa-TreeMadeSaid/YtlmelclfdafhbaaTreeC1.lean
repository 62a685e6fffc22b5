/- Boxes that stand in one another: Path. -/
import Derived.Test.YtlmelclfdafhbaaTreeC0
namespace Go.Proofs.Ytlmelclfdafhbaa
open Go.RowKit Go.PlainAid
set_option linter.unusedVariables false
set_option linter.unusedSimpArgs false
theorem mkTL (x : ByteArray) : (⟨x.toList.toArray⟩ : ByteArray) = x := by rw [ByteArray.toList_eq]
theorem tlLen (x : ByteArray) : x.toList.length = x.size := by rw [ByteArray.toList_eq]; simp
theorem flat_snoc (ns : List ByteArray) (x : ByteArray) : flatS ((ns ++ [x]).reverse) = 47 :: x.toList ++ flatS ns.reverse := by
  rw [List.reverse_append]
  simp [flatS]
set_option maxHeartbeats 1000000 in
theorem path_made (l : List Bx) (P : Nat → ByteArray) (A : Option Addr) (n c k : Nat) (w : World) (hn : n = l.length) (hx : BoxAt w A l) (hm : MadeOk l P) (hk : k < n) : PathIs A n c ((k : Int) + 1) (P k) w := by
  have HX := Lib.hid hx
  have HN := Lib.hid hn
  have HM := Lib.hid hm
  have hl : n ≤ 1000 := by rw [hn]; exact hm.len
  have hsz : (P k).size ≤ 1000000 := hm.size k (by omega)
  have HW := Lib.hid (Below.refl w.heap.size w)
  have hst : Hid ((P k).toList = (P k).toList ++ flatS ([] : List ByteArray).reverse) := by show _ = _; simp [flatS]
  obtain ⟨T, hT⟩ : ∃ T, T = P k := ⟨_, rfl⟩
  rw [← hT] at hsz ⊢
  have hst : Hid (T.toList = (P k).toList ++ flatS ([] : List ByteArray).reverse) := by rw [hT]; exact hst
  clear hx hn hm hT
  unfold PathIs
  go_enter Try.func12, Try.ntmps12
  go_wp2_with fail
  go_step3
  go_wp2_with fail
  go_step3
  go_wp2_with fail
  go_loopw [1, 5] (fun t1 t5 wr => ∃ (i : Nat) (ns : List ByteArray) (A' : Option Addr) (c' : Nat), i < n ∧ ns.length + i ≤ k ∧ t1 = .int .i64 ((i : Int) + 1) ∧ t5 = .slice A' ns.length c' ∧ Hid (wr.ownsRow w.heap.size 9 1 (.slice A' ns.length c') ns.length (ns.map Value.string)) ∧ Hid (T.toList = (P i).toList ++ flatS ns.reverse) ∧ Hid (Below w.heap.size w wr)) (fun t1 _ _ => (intOf t1).toNat)
  case atStart => exact ⟨k, [], none, 0, hk, by simp, rfl, rfl, World.ownsRow_nil _ _ _ _, hst, HW⟩
  case round =>
    clear hst
    obtain ⟨i, ns, A', c', hin, hik, rfl, rfl, ho, ht, hw⟩ := hrel
    have hil : i < l.length := by have := HN.out; omega
    have hf := tfind_any l A n c ((i : Int) + 1) wr HN.out (by omega) (HX.out.below hw.out)
    unfold FindIs at hf
    rw [fnd_made HM.out i hil] at hf
    have HF := Lib.hid hf
    obtain ⟨b, h2⟩ : ∃ b, l[i]? = some b := ⟨_, List.getElem?_eq_getElem hil⟩
    have HB := Lib.hid h2
    obtain ⟨g, rfl, hg, q0, q1, q2, q3, q4, q5⟩ := HX.out i b h2
    have HQ1 := Lib.hid q1
    have HQ2 := Lib.hid q2
    have hmB : ((ns.length : Int) == (n : Int)) = false := by rw [beq_eq_false_iff_ne]; omega
    have hj0 : ¬ (i : Int) < 0 := by omega
    clear hf h2 q0 q1 q2 q3 q4 q5
    generalize hL : ns.length = m at *
    have HLn := Lib.hid hL
    clear hL
    rcases HM.out.par i b HB.out with hp | ⟨j, hp, hji⟩
    · have hpB : (b.par == 0) = true := by rw [hp]; rfl
      have HTOP := Lib.hid (HM.out.top i b HB.out hp)
      clear hp
      go_wp2_with fail
      refine (HF.out : Calls _ _ _ _ _).mono ?_; rintro e w2 ⟨rfl, hw2⟩
      have hW := Lib.hid (nextB hw.out hw2)
      have HO := Lib.hid (own_old ho.out hw2)
      have f1 : w2.cell? ⟨g, i * 6 + 1, none⟩ = some (.string b.name) := by rw [hW.out.cell (p := ⟨g, i * 6 + 1, none⟩) hg]; exact HQ1.out
      clear HF ho hw hw2
      go_wp2_with (at_builtin; refine wpList_pushStr _ rfl _ _ rfl w.heap.size _ m (ns.map Value.string) rfl HO.out b.name rfl (by omega) hW.out.size ?_; intro v' w3 ho3 hg3 hv3; obtain ⟨Av, cv, rfl⟩ := own_form ho3; have HO3 := Lib.hid ho3; have f2 : w3.cell? ⟨g, i * 6 + 2, none⟩ = some (.int .i64 b.par) := by { rw [World.cell?_of_block (hg3.block g (by have := hW.out.size; simp; omega) (fun e => by have := (own_lt HO.out e.symm).1; omega)), World.cell?_alloc_lt _ _ _ (by have := hW.out.size; show g < _; omega), hW.out.cell (p := ⟨g, i * 6 + 2, none⟩) hg]; exact HQ2.out }; have HW3 : Hid (Below w.heap.size w w3) := (hW.out.alloc hW.out.size _).grown hg3 (by have := hW.out.size; simp; omega) (fun g' hg' => (own_lt HO.out hg').1); clear ho3 hg3 hv3)
      have hml := HLn.out
      have hml2 : (ns ++ [b.name]).length = m + 1 := by simp [hml]
      have hrow : w3.ownsRow w.heap.size 9 1 (.slice Av (ns ++ [b.name]).length cv) (ns ++ [b.name]).length ((ns ++ [b.name]).map Value.string) := by
        rw [hml2, List.map_append]; exact HO3.out
      obtain ⟨g2, rfl, hge, hg2, hcap, hrev⟩ := rev_own w3 w.heap.size Av cv (ns ++ [b.name]) hrow (by simp) (by rw [hml2]; omega)
      rw [hml2] at hrev hcap
      have hres : (⟨(Lib.join ((b.name :: ns.reverse).map (·.data.toList)) [47]).toArray⟩ : ByteArray) = T := by
        rw [join_flat, ← HTOP.out, ← ht.out]; exact mkTL T
      have hlen : (Lib.join ((b.name :: ns.reverse).map (·.data.toList)) [47]).length ≤ 140737488355328 := by
        rw [join_flat, ← HTOP.out, ← ht.out, tlLen]; omega
      have hlen2 : (b.name :: ns.reverse).length = m + 1 := by simp [hml]
      have HREV := Lib.hid hrev
      have HRES := Lib.hid hres
      have HLEN := Lib.hid hlen
      have HLEN2 := Lib.hid hlen2
      clear hrev hres hlen hlen2 hrow hml hml2 HO3 f2 HO f1
      refine (HREV.out : Calls _ _ _ _ _).mono ?_; rintro e w4 ⟨rfl, hw4, hs4, hc4⟩
      have hj := Try.strings_Join g2 0 cv (b.name :: ns.reverse) ⟨#[47]⟩ w4 (fun j x hj => hc4 j x (by rw [List.reverse_append]; exact hj)) (by omega) (by rw [HLEN2.out]; omega) (by rw [HLEN2.out]; exact hcap) HLEN.out
      rw [HLEN2.out, show (⟨#[47]⟩ : ByteArray).data.toList = [47] from rfl, HRES.out] at hj
      have HJ := Lib.hid hj
      have hW4 := HW3.out.trans hw4
      clear hj hc4 hs4 hw4 HREV HRES HLEN HLEN2
      go_wp2_with fail
      refine (HJ.out : Calls _ _ _ _ _).mono ?_; rintro e w5 ⟨rfl, hw5⟩
      have hW5 := nextB hW4 hw5
      go_wp2_with fail
      try rw [Exit.noGoto_ret]
      go_ret
      exact ⟨rfl, hW5⟩
    · have hpB : (b.par == 0) = false := by rw [hp, beq_eq_false_iff_ne]; omega
      have HSUB := Lib.hid (HM.out.sub i b j HB.out hp)
      have HP := Lib.hid hp
      clear hp
      go_wp2_with fail
      refine (HF.out : Calls _ _ _ _ _).mono ?_; rintro e w2 ⟨rfl, hw2⟩
      have hW := Lib.hid (nextB hw.out hw2)
      have HO := Lib.hid (own_old ho.out hw2)
      have f1 : w2.cell? ⟨g, i * 6 + 1, none⟩ = some (.string b.name) := by rw [hW.out.cell (p := ⟨g, i * 6 + 1, none⟩) hg]; exact HQ1.out
      clear HF ho hw hw2
      go_wp2_with (at_builtin; refine wpList_pushStr _ rfl _ _ rfl w.heap.size _ m (ns.map Value.string) rfl HO.out b.name rfl (by omega) hW.out.size ?_; intro v' w3 ho3 hg3 hv3; obtain ⟨Av, cv, rfl⟩ := own_form ho3; have HO3 := Lib.hid ho3; have f2 : w3.cell? ⟨g, i * 6 + 2, none⟩ = some (.int .i64 b.par) := by { rw [World.cell?_of_block (hg3.block g (by have := hW.out.size; simp; omega) (fun e => by have := (own_lt HO.out e.symm).1; omega)), World.cell?_alloc_lt _ _ _ (by have := hW.out.size; show g < _; omega), hW.out.cell (p := ⟨g, i * 6 + 2, none⟩) hg]; exact HQ2.out }; have HW3 : Hid (Below w.heap.size w w3) := (hW.out.alloc hW.out.size _).grown hg3 (by have := hW.out.size; simp; omega) (fun g' hg' => (own_lt HO.out hg').1); clear ho3 hg3 hv3)
      have hml := HLn.out
      have hp := HP.out
      refine ⟨⟨j, ns ++ [b.name], Av, cv, by omega, by simp; omega, by rw [hp], by simp [hml], ?_, ?_, HW3⟩, by rw [hp]; simp [intOf]; omega⟩
      · show World.ownsRow _ _ _ _ _ _ _
        have := HO3.out
        rw [List.map_append, List.length_append, hml]
        exact this
      · show _ = _
        rw [ht.out, HSUB.out, flat_snoc]
        simp
end Go.Proofs.Ytlmelclfdafhbaa
