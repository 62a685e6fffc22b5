/- Texts of one seat, one behind the other: Jtext, Rp0, Rp1, Rp3, Rp4, NdIn, Copied, Rp2. No condition. -/
import Derived.Test.YtnhoecmcbikcnaaQ2
import Derived.BigQuiet
import Derived.Deep.QuietTactic
import Derived.Deep.RegionHeld3
import Derived.Deep.DeepCutAuto
/-! The walk of json's text. -/
namespace Go.Proofs.Ytnhoecmcbikcnaa
open Go.RowKit Go.PlainAid
set_option linter.unusedVariables false
set_option linter.unusedSimpArgs false
theorem escL_len {l b r : List UInt8} (h : escL l = some (b, r)) : b.length ≤ 4 := by
  unfold escL at h
  cases l with
  | nil => simp at h
  | cons c l =>
    simp only at h
    split at h
    · cases h; simp
    split at h
    · cases h; simp
    split at h
    · cases h; simp
    split at h
    · cases h; simp
    split at h
    · cases h; simp
    split at h
    · cases h; simp
    split at h
    · split at h
      · cases h
      · cases h; exact putB_len _
    · cases h
theorem KU.grown {B rb : Nat} {w w1 w2 : World} (h : w.grownBy w1 (some rb)) (k : KU w.heap.size w1 w2) : w.grownBy w2 (some rb) :=
  ⟨k.1.os.trans h.os, k.1.tape.trans h.tape, k.1.output.trans h.output, Nat.le_trans h.size k.1.size, fun i hi hne => (k.1.block i hi).trans (h.block i hi hne)⟩
theorem OwnU.keepR {w w' : World} {B rb : Nat} {v : Value} {l : List UInt8} (h : OwnU w B v l) (hg : w.grownBy w' (some rb)) (hr : rb < B) : OwnU w' B v l := by
  refine World.ownsRow.kept h hg (Or.inr ?_)
  intro e
  have := (World.ownsRow.lt h rb e).1
  omega
theorem OwnU.form' {w : World} {B : Nat} {v : Value} {l : List UInt8} (h : OwnU w B v l) : ∃ A c, v = .slice A l.length c := by
  rcases h.2 with ⟨rfl, hx⟩ | ⟨g, cap, cur, rfl, _⟩
  · rw [nums_len] at hx; rw [hx]; exact ⟨_, _, rfl⟩
  · rw [nums_len]; exact ⟨_, _, rfl⟩
set_option maxRecDepth 100000 in
/-- a string's bytes appended, as one step of a region that draws its order -/
theorem step_pushS {ops : Array Oper} {o : Oper} {a : Act} {w : World} {K : Act → World → Prop} {Q : Exit → Act → World → Prop} {E : Prop}
    (hg : o.guard = none) (s x : Operand) (hop : o.op = Op.call { callee := Callee.builtin Builtin.append, args := #[s, x], argTypes := #[22, 9] })
    (B : Nat) (v : Value) (l : List UInt8) (hs : a.eval s = v) (hown : OwnU w B v l) (t : ByteArray) (hx : a.eval x = .string t) (m : List UInt8) (hm : t.toList = m)
    (hlim : l.length + m.length ≤ 120000000000000) (hB : B ≤ w.heap.size)
    (hK : ∀ v' w', OwnU w' B v' (l ++ m) → KU B w w' → K (a.put o.dst v') w') :
    if Region.wanted o (yielded ops a.tmps) = true then Oper.wp Try.prog o a w K Q else E := by
  have hw : Region.wanted o (yielded ops a.tmps) = true := by simp [Region.wanted, hg]
  rw [if_pos hw]
  obtain ⟨i0, hi0, hz0, hz1, hz2⟩ := info_parts u8Info
  have hts : t.size = m.length := by rw [← hm]; exact (tl_len' t).symm
  obtain ⟨v', w', h1, h2, h3, _⟩ := Lib.run_append_own_string (P := Try.prog) w B 22 9 o.type 5 i0 Try.underlying22 Try.underlying9 hi0 hz0 hz1 hz2 v (nums l).length _ hown t
    (by rw [nums_len]; simp only [maxLen]; omega) (by rw [nums_len]; omega) hB
  unfold Oper.wp execOp
  simp only [hop, resolve, invoke, builtin, Sem.run_bind, Sem.run_pure, Result.andThen_ok, List.map_toArray, List.map_cons, List.map_nil, hs, hx, h1]
  refine hK _ _ ?_ (KU.of_grown hown hB h3)
  have e : (nums (l ++ m)).map (Value.int .u8) = (nums l).map (Value.int .u8) ++ Lib.strCells t := by
    rw [nums_app, List.map_append]
    congr 1
    subst hm
    rw [ByteArray.toList_eq]
    simp [nums, Lib.strCells]
  show w'.ownsRow B 5 1 v' (nums (l ++ m)).length ((nums (l ++ m)).map (Value.int .u8))
  rw [e, nums_app, List.length_append, nums_len m, ← hts]
  exact h2
theorem len_drop (s : ByteArray) (k : Nat) : (s.toList.drop k).length = s.size - k := by rw [List.length_drop, toList_len]
set_option maxRecDepth 100000 in
set_option maxHeartbeats 4000000 in
theorem text_any (rb : Nat) (s : ByteArray) (k : Nat) (w : World) (h : RdSt w rb s k) (hk : k ≤ s.size) (hs : s.size ≤ 1000000) :
    Calls Try.prog 43 #[.pointer (some ⟨rb, 0, none⟩)] w (StrEnd rb s (textL (s.toList.drop k)) w) := by
  obtain ⟨V, hV⟩ : ∃ V, V = textL (s.toList.drop k) := ⟨_, rfl⟩
  rw [← hV]
  have hb := get_bt s
  have hrb : rb < w.heap.size := h.lt
  by_cases p34 : (s.toList.drop k).take 1 = [34]
  case neg =>
    have E1 : Hid (V = none) := by
      show _ = _
      rw [hV]
      unfold textL
      rw [if_neg]
      intro e
      apply p34
      cases hl : s.toList.drop k with
      | nil => rw [hl] at e; cases e
      | cons c t => rw [hl] at e; injection e with e; subst e; rfl
    have HM := Lib.hid (must_no rb s ⟨#[34]⟩ k w h hk hs (by decide) (by rw [one_lit]; exact p34))
    clear hV h p34
    go_enter Try.func43, Try.ntmps43
    go_wp2_with fail
    refine HM.out.mono ?_; rintro e w9 ⟨rfl, h9, g9⟩
    have H9 := Lib.hid h9
    have G9 := Lib.hid g9
    clear h9 g9
    go_wp2_with fail
    exact ⟨rfl, StrEnd.no E1.out ⟨rfl, H9.out, G9.out⟩⟩
  have HV : Hid (V = textT (s.toList.drop (k + 1)) []) := by
    show _ = _
    rw [hV]
    unfold textL
    cases hl : s.toList.drop k with
    | nil => rw [hl] at p34; cases p34
    | cons c t =>
      rw [hl] at p34
      have ec : c = 34 := by simpa using p34
      subst ec
      rw [if_pos (show (34 :: t : List UInt8).head? = some 34 from rfl), show s.toList.drop (k + 1) = t by rw [← List.drop_drop, hl]; rfl]
      rfl
  have hm := must_yes rb s ⟨#[34]⟩ k w h hk hs (by rw [one_lit]; exact p34)
  have hkl : k < s.size := by
    rcases Nat.lt_or_ge k s.size with h | h
    · exact h
    · rw [drop_end s k h] at p34; cases p34
  have HM : Hid (Calls Try.prog 45 #[.pointer (some ⟨rb, 0, none⟩), .string ⟨#[34]⟩] w fun e w' => e = .returned (.tuple #[]) ∧ RdSt w' rb s (k + 1) ∧ w.grownBy w' (some rb)) := hm.mono (by
    rintro e w' ⟨rfl, k', hk', hd, h2, g2⟩
    refine ⟨rfl, ?_, g2⟩
    have e1 : k' = k + 1 := by
      have e2 := congrArg List.length hd
      rw [List.length_drop, List.length_drop, List.length_drop, toList_len] at e2
      have : ({ data := #[34] } : ByteArray).size = 1 := rfl
      omega
    subst e1
    exact h2)
  clear hV h hm p34
  go_enter Try.func43, Try.ntmps43
  go_wp2_with fail
  refine HM.out.mono ?_; rintro e w1 ⟨rfl, h1, g1⟩
  have H1 := Lib.hid h1
  have G1 := Lib.hid g1
  clear h1 g1
  have O1 : Hid (OwnU w1 w.heap.size (.slice none 0 0) []) := OwnU.nil _ _
  go_wp2_with fail
  go_loopg [3] (s.size - k) (fun g tv wr => ∃ (j : Nat) (acc : List UInt8) (A : Option Addr) (c : Nat), j ≤ s.size ∧ s.size - j ≤ g ∧ acc.length ≤ 4 * j ∧ tv = .slice A acc.length c ∧ Hid (OwnU wr w.heap.size (.slice A acc.length c) acc) ∧ Hid (V = textT (s.toList.drop j) acc) ∧ Hid (RdSt wr rb s j) ∧ Hid (w.grownBy wr (some rb)))
  case atStart => exact ⟨k + 1, [], none, 0, hkl, by omega, by simp, rfl, O1, HV, H1, G1⟩
  case round =>
    clear H1 G1 O1 HV
    obtain ⟨j, acc, A, c, hj, hg, hac, rfl, ho, hv, h0, hw⟩ := hrel
    obtain ⟨wo, rfl⟩ : ∃ wo : World, wo = wr := ⟨_, rfl⟩
    obtain ⟨c0, c1, c2⟩ := h0.out.cells3
    have f1 := h0.out.frozen 1
    have i0 : (0 : Int) ≤ (j : Int) := by omega
    by_cases hlt : j < s.size
    case neg =>
      have ne1 : ((j : Int) == (s.size : Int)) = true := by rw [beq_iff_eq]; omega
      have E1 : Hid (V = none) := by show _ = _; rw [hv.out, drop_end s j (by omega), textT_nil]
      have H5 : Hid (∀ n, RdSt (wo.drewN n) rb s j) := fun n => h0.out
      have G5 : Hid (∀ n, w.grownBy (wo.drewN n) (some rb)) := fun n => grown_drewN hw.out n
      go_wp2_with fail
      go_quiet (fail)
      go_wp2_with fail
      refine (fail_any rb s j 3 _ (H5.out _)).mono ?_; rintro e w9 ⟨rfl, h9, g9⟩
      have H9 := Lib.hid h9
      have G9 := Lib.hid ((G5.out _).trans g9)
      clear h9 g9
      go_wp2_with fail
      exact ⟨rfl, StrEnd.no E1.out ⟨rfl, H9.out, G9.out⟩⟩
    obtain ⟨u, hu, hd⟩ := drop_cons s j hlt
    have i1 : (j : Int) < (s.size : Int) := by omega
    have ne1 : ((j : Int) == (s.size : Int)) = false := by rw [beq_eq_false_iff_ne]; omega
    have b0 := bt_nonneg s j
    have b1 := bt_le s j
    have H5 : Hid (∀ n, RdSt (wo.drewN n) rb s j) := fun n => h0.out
    have G5 : Hid (∀ n, w.grownBy (wo.drewN n) (some rb)) := fun n => grown_drewN hw.out n
    have O5 : Hid (∀ n, OwnU (wo.drewN n) w.heap.size (.slice A acc.length c) acc) := fun n => ho.out
    have hst := textT_cons u (s.toList.drop (j + 1)) acc
    rw [← hd, ← hv.out] at hst
    have HST := Lib.hid hst
    have HU := Lib.hid hu
    have HD := Lib.hid hd
    clear hu hd hst
    by_cases q32 : bt s j < 32
    · have E1 : Hid (V = none) := by show _ = _; rw [HST.out, if_pos (by rw [UInt8.lt_iff_toNat_lt]; have := HU.out; have e : ((32 : UInt8).toNat) = 32 := rfl; omega)]
      have d32 : decide (bt s j < 32) = true := decide_eq_true q32
      go_wp2_with fail
      go_quiet (fail)
      go_wp2_with fail
      go_quiet (fail)
      go_wp2_with fail
      refine (fail_any rb s j 3 _ (H5.out _)).mono ?_; rintro e w9 ⟨rfl, h9, g9⟩
      have H9 := Lib.hid h9
      have G9 := Lib.hid ((G5.out _).trans g9)
      clear h9 g9
      go_wp2_with fail
      exact ⟨rfl, StrEnd.no E1.out ⟨rfl, H9.out, G9.out⟩⟩
    have d32 : decide (bt s j < 32) = false := decide_eq_false q32
    have HN32 : Hid (¬ u < 32) := by show ¬ _; rw [UInt8.lt_iff_toNat_lt]; have := HU.out; have e : ((32 : UInt8).toNat) = 32 := rfl; omega
    clear q32
    by_cases q34 : u = 34
    · have E1 : Hid (V = some (acc, s.toList.drop (j + 1))) := by show _ = _; rw [HST.out, if_neg HN32.out, if_pos q34]
      have HY : Hid (∀ n, Calls Try.prog 39 #[.pointer (some ⟨rb, 0, none⟩), .string ⟨#[34]⟩] (wo.drewN n) fun e w' => e = .returned (.bool true) ∧ RdTo rb s ((s.toList.drop j).drop 1) (wo.drewN n) w') := fun n => may_yes rb s ⟨#[34]⟩ j _ (H5.out n) hj hs (by rw [HD.out, q34, one_lit]; rfl)
      clear q34
      go_wp2_with fail
      go_quiet (fail)
      go_wp2_with fail
      go_quiet (fail)
      go_wp2_with fail
      refine (HY.out _).mono ?_; rintro e w2 ⟨rfl, k2, hk2, hd2, h2, g2⟩
      have hcv := ((O5.out _).keepR g2 hrb).conv
      have H2 := Lib.hid h2
      have G2 := Lib.hid ((G5.out _).trans g2)
      have D2 : Hid (s.toList.drop k2 = s.toList.drop (j + 1)) := by show _ = _; rw [hd2, List.drop_drop]
      clear h2 g2 hd2
      go_wp2_with fail
      go_ret
      exact StrEnd.yes E1.out ⟨rfl, k2, hk2, D2.out, H2.out, G2.out⟩
    have HN34 := Lib.hid q34
    have HY : Hid (∀ n, Calls Try.prog 39 #[.pointer (some ⟨rb, 0, none⟩), .string ⟨#[34]⟩] (wo.drewN n) fun e w' => e = .returned (.bool false) ∧ RdSt w' rb s j ∧ (wo.drewN n).grownBy w' (some rb)) := fun n => may_no rb s ⟨#[34]⟩ j _ (H5.out n) hj hs (by decide) (by
      rw [HD.out, one_lit]
      intro e
      have e2 : [u] = [34] := e
      injection e2 with e2
      exact HN34.out e2)
    clear q34
    by_cases q92 : u = 92
    · have HST2 : Hid (V = match escL (s.toList.drop (j + 1)) with
        | none => none
        | some (b, r2) => textT r2 (acc ++ b)) := by show _ = _; rw [HST.out, if_neg HN32.out, if_neg HN34.out, if_pos q92]; rfl
      have HYB : Hid (∀ w2, RdSt w2 rb s j → Calls Try.prog 39 #[.pointer (some ⟨rb, 0, none⟩), .string ⟨#[92]⟩] w2 fun e w' => e = .returned (.bool true) ∧ RdTo rb s ((s.toList.drop j).drop 1) w2 w') := fun w2 h2 => may_yes rb s ⟨#[92]⟩ j _ h2 hj hs (by rw [HD.out, q92, one_lit]; rfl)
      clear q92
      go_wp2_with fail
      go_quiet (fail)
      go_wp2_with fail
      go_quiet (fail)
      go_wp2_with fail
      refine (HY.out _).mono ?_; rintro e w2 ⟨rfl, h2, g2⟩
      have H2 := Lib.hid h2
      have G2 := Lib.hid ((G5.out _).trans g2)
      have O2 := Lib.hid ((O5.out _).keepR g2 hrb)
      clear h2 g2
      go_wp2_with fail
      refine (HYB.out _ H2.out).mono ?_; rintro e w3 ⟨rfl, k3, hk3, hd3, h3, g3⟩
      have hk3j : k3 = j + 1 := by
        have e2 := congrArg List.length hd3
        rw [List.length_drop, List.length_drop, List.length_drop, toList_len] at e2
        omega
      subst hk3j
      have H3 := Lib.hid h3
      have G3 := Lib.hid (G2.out.trans g3)
      have O3 := Lib.hid (O2.out.keepR g3 hrb)
      clear h3 g3 hd3
      have hes := escape_any rb s (j + 1) w3 H3.out hk3 hs
      cases hq : escL (s.toList.drop (j + 1)) with
      | none =>
        rw [hq] at hes HST2
        have E1 : Hid (V = none) := HST2.out
        have HES := Lib.hid (show Calls Try.prog 56 #[.pointer (some ⟨rb, 0, none⟩)] w3 (Failed rb s 3 w3) from hes)
        clear hes hq HST2
        go_wp2_with fail
        refine HES.out.mono ?_; rintro e w9 ⟨rfl, h9, g9⟩
        have H9 := Lib.hid h9
        have G9 := Lib.hid (G3.out.trans g9)
        clear h9 g9
        go_wp2_with fail
        exact ⟨rfl, StrEnd.no E1.out ⟨rfl, H9.out, G9.out⟩⟩
      | some p =>
        obtain ⟨b, r⟩ := p
        rw [hq] at hes HST2
        have E1 : Hid (V = textT r (acc ++ b)) := HST2.out
        have HES := Lib.hid (show Calls Try.prog 56 #[.pointer (some ⟨rb, 0, none⟩)] w3 (fun e w' => e = .returned (.string ⟨b.toArray⟩) ∧ RdTo rb s r w3 w') from hes)
        have hbl := escL_len hq
        have hrl := (escL_le hq).2
        rw [len_drop] at hrl
        have hbt : Hid ((⟨b.toArray⟩ : ByteArray).toList = b) := by show _ = _; rw [ByteArray.toList_eq]
        clear hes hq HST2
        go_wp2_with fail
        refine HES.out.mono ?_; rintro e w4 ⟨rfl, k4, hk4, hd4, h4, g4⟩
        have hk4r : r.length = s.size - k4 := by rw [← hd4, len_drop]
        have hac2 : (acc ++ b).length ≤ 4 * k4 := by rw [List.length_append]; omega
        have hg4 : s.size - k4 ≤ gk - 1 := by omega
        have hg0 : 0 < gk := by omega
        have HAC2 := Lib.hid hac2
        have H4 := Lib.hid h4
        have G4 := Lib.hid (G3.out.trans g4)
        have O4 := Lib.hid (O3.out.keepR g4 hrb)
        have E4 : Hid (V = textT (s.toList.drop k4) (acc ++ b)) := by show _ = _; rw [E1.out, hd4]
        have z4 : w.heap.size ≤ w4.heap.size := G4.out.size
        clear h4 g4 hd4 hac2 hk4r
        go_wp2_with (at_builtin; refine wpList_pushS _ rfl _ _ rfl w.heap.size _ acc rfl O4.out _ rfl b hbt.out (by omega) z4 ?_; intro v5 w5 n5 k5; obtain ⟨A5, c5, rfl⟩ := n5.form'; have N5 := Lib.hid n5; have K5 := Lib.hid k5; clear n5 k5)
        have H5' : Hid (RdSt w5 rb s k4) := H4.out.below K5.out.1 hrb
        have G5' : Hid (w.grownBy w5 (some rb)) := KU.grown (B := 0) G4.out K5.out
        go_roundg (gk - 1)
        case measure => omega
        case rel => exact ⟨k4, acc ++ b, A5, c5, hk4, hg4, HAC2.out, (by first | rfl | (simp; done)), N5, E4, H5', G5'⟩
    have HN92 := Lib.hid q92
    have HYB : Hid (∀ w2, RdSt w2 rb s j → Calls Try.prog 39 #[.pointer (some ⟨rb, 0, none⟩), .string ⟨#[92]⟩] w2 fun e w' => e = .returned (.bool false) ∧ RdSt w' rb s j ∧ w2.grownBy w' (some rb)) := fun w2 h2 => may_no rb s ⟨#[92]⟩ j _ h2 hj hs (by decide) (by
      rw [HD.out, one_lit]
      intro e
      have e2 : [u] = [92] := e
      injection e2 with e2
      exact HN92.out e2)
    clear q92
    have HST2 : Hid (V = match decL (s.toList.drop j) with
      | none => none
      | some (_, m) => textT ((s.toList.drop j).drop m) (acc ++ (s.toList.drop j).take m)) := by show _ = _; rw [HST.out, if_neg HN32.out, if_neg HN34.out, if_neg HN92.out, HD.out]; rfl
    have HGT : Hid (∀ w', Calls Try.prog 57 #[.string s, .int .i64 j] w' (GetEnd (getL s.toList j) w')) := get_fn s j (by omega) hlt
    go_wp2_with fail
    go_quiet (fail)
    go_wp2_with fail
    go_quiet (fail)
    go_wp2_with fail
    refine (HY.out _).mono ?_; rintro e w2 ⟨rfl, h2, g2⟩
    have H2 := Lib.hid h2
    have G2 := Lib.hid ((G5.out _).trans g2)
    have O2 := Lib.hid ((O5.out _).keepR g2 hrb)
    clear h2 g2
    go_wp2_with fail
    refine (HYB.out _ H2.out).mono ?_; rintro e w3 ⟨rfl, h3, g3⟩
    have H3 := Lib.hid h3
    have G3 := Lib.hid (G2.out.trans g3)
    have O3 := Lib.hid (O2.out.keepR g3 hrb)
    clear c0 c1 c2 f1
    obtain ⟨c0, c1, c2⟩ := h3.cells3
    clear h3 g3
    cases hq : decL (s.toList.drop j) with
    | none =>
      have hgl : getL s.toList j = (-1, (j : Int)) := by unfold getL; rw [hq]
      rw [hgl] at HGT
      rw [hq] at HST2
      have E1 : Hid (V = none) := HST2.out
      clear hq HST2 hgl
      go_wp2_with fail
      go_region_with (go_at_call 57; refine (HGT.out _).mono ?_; rintro e w4 ⟨rfl, hw4⟩)
      all_goals
        have H4 : Hid (RdSt w4 rb s j) := (show RdSt w3.drew rb s j from H3.out).below hw4 (show RdSt w3.drew rb s j from H3.out).lt
        have G4 : Hid (w.grownBy w4 (some rb)) := (grown_drew G3.out).trans (grown_below hw4)
        clear hw4
        go_wp2_with fail
        refine (fail_any rb s j 3 _ H4.out).mono ?_; rintro e w9 ⟨rfl, h9, g9⟩
        have H9 := Lib.hid h9
        have G9 := Lib.hid (G4.out.trans g9)
        clear h9 g9
        go_wp2_with fail
        exact ⟨rfl, StrEnd.no E1.out ⟨rfl, H9.out, G9.out⟩⟩
    | some p =>
      obtain ⟨r, m⟩ := p
      have hgl : getL s.toList j = (r, (j : Int) + (m : Int)) := by unfold getL; rw [hq]
      rw [hgl] at HGT
      rw [hq] at HST2
      have E1 : Hid (V = textT ((s.toList.drop j).drop m) (acc ++ (s.toList.drop j).take m)) := HST2.out
      have hdl := dec_le _ r m hq
      have hds := decL_some _ r m hq
      have hm4 : m ≤ 4 := by rw [hds.2.1]; exact putB_len r
      rw [len_drop] at hdl
      have dr : decide (r < 0) = false := decide_eq_false (by omega)
      have hjm : j + m ≤ s.size := by omega
      have x0 : (0 : Int) ≤ (j : Int) + (m : Int) := by omega
      have x1 : (j : Int) + (m : Int) ≤ (s.size : Int) := by omega
      have x2 : (j : Int) ≤ (j : Int) + (m : Int) := by omega
      have x3 : ((j : Int) + (m : Int)).toNat = j + m := by omega
      have hext : Hid ((s.extract j (j + m)).toList = (s.toList.drop j).take m) := extract_take s j m
      have hac2 : Hid ((acc ++ (s.toList.drop j).take m).length ≤ 4 * (j + m)) := by
        show _ ≤ _
        rw [List.length_append, List.length_take, len_drop]; omega
      have hlim : Hid (acc.length + ((s.toList.drop j).take m).length ≤ 120000000000000) := by
        show _ ≤ _
        rw [List.length_take, len_drop]; omega
      have hg4 : s.size - (j + m) ≤ gk - 1 := by omega
      have hg0 : 0 < gk := by omega
      have E2 : Hid (V = textT (s.toList.drop (j + m)) (acc ++ (s.toList.drop j).take m)) := by show _ = _; rw [E1.out, List.drop_drop]
      clear hq HST2 hgl hdl hds E1
      go_wp2_with fail
      go_region_with (go_at_call 57; refine (HGT.out _).mono ?_; rintro e w4 ⟨rfl, hw4⟩)
      all_goals
        have H4 : Hid (RdSt w4 rb s j) := (show RdSt w3.drew rb s j from H3.out).below hw4 (show RdSt w3.drew rb s j from H3.out).lt
        have G4 : Hid (w.grownBy w4 (some rb)) := (grown_drew G3.out).trans (grown_below hw4)
        have O4 : Hid (OwnU w4 w.heap.size (.slice A acc.length c) acc) := (show OwnU w3.drew w.heap.size (.slice A acc.length c) acc from O3.out).old hw4
        have z4 : w.heap.size ≤ w4.heap.size := G4.out.size
        clear hw4 c0 c1 c2
        obtain ⟨c0, c1, c2⟩ := H4.out.cells3
        go_wp2_with fail
        go_region_law (refine step_pushS rfl _ _ rfl w.heap.size _ acc rfl (show OwnU w4.drew w.heap.size _ acc from O4.out) (s.extract j (j + m)) (by simp [Act.eval, Act.put]) ((s.toList.drop j).take m) hext.out hlim.out (by simp; omega) ?_; intro v5 w5 n5 k5; obtain ⟨A5, c5, rfl⟩ := n5.form'; have N5 := Lib.hid n5; have K5 := Lib.hid k5; clear n5 k5)
        all_goals
          have h5 : RdSt w5 rb s j := (show RdSt w4.drew rb s j from H4.out).below K5.out.1 hrb
          have H6 : Hid (RdSt (w5.setCell ⟨rb, 1, none⟩ (.int .i64 ((j : Int) + (m : Int)))) rb s (j + m)) := by
            have := h5.set_ 1 (.int .i64 ((j + m : Nat) : Int))
            exact this
          have G6 : Hid (w.grownBy (w5.setCell ⟨rb, 1, none⟩ (.int .i64 ((j : Int) + (m : Int)))) (some rb)) := grown_set (KU.grown (B := 0) (grown_drew G4.out) K5.out) 1 _
          have O6 : Hid (OwnU (w5.setCell ⟨rb, 1, none⟩ (.int .i64 ((j : Int) + (m : Int)))) w.heap.size (.slice A5 (acc ++ (s.toList.drop j).take m).length c5) (acc ++ (s.toList.drop j).take m)) := N5.out.keepR (grown_set (grown_refl _ _) 1 _) hrb
          obtain ⟨e0, e1, e2⟩ := h5.cells3
          have f1 := h5.frozen 1
          clear h5
          go_wp2_with fail
          go_roundg (gk - 1)
          case measure => omega
          case rel => exact ⟨j + m, acc ++ (s.toList.drop j).take m, A5, c5, hjm, hg4, hac2.out, (by first | rfl | (simp; done)), O6, E2, H6, G6⟩
end Go.Proofs.Ytnhoecmcbikcnaa
/-! The reference's reader: its state; failing, blanks, a byte that stands there. -/
namespace Go.Proofs.Ytnhoecmcbikcnaa
open Go.RowKit Go.PlainAid
set_option linter.unusedVariables false
set_option linter.unusedSimpArgs false
/-- the reference's reader at a place, within so many, with its first error -/
def RSt (w : World) (rb : Nat) (s : ByteArray) (k d : Nat) (e : Int) : Prop := Blk w rb 60 #[.string s, .int .i64 k, .int .i64 d, .int .i64 e]
/-- done: the rest is l -/
def RTo (rb : Nat) (s : ByteArray) (d : Nat) (l : List UInt8) (w w' : World) : Prop := ∃ k, k ≤ s.size ∧ s.toList.drop k = l ∧ RSt w' rb s k d 0 ∧ w.grownBy w' (some rb)
/-- an error: it stays -/
def RBad (rb : Nat) (s : ByteArray) (d : Nat) (c : Int) (w w' : World) : Prop := ∃ k, k ≤ s.size ∧ RSt w' rb s k d c ∧ w.grownBy w' (some rb)
theorem RTo.from {rb : Nat} {s : ByteArray} {d : Nat} {l : List UInt8} {w w1 w' : World} (h : RTo rb s d l w1 w') (k : w.grownBy w1 (some rb)) : RTo rb s d l w w' := by
  obtain ⟨k', h1, h2, h3, h4⟩ := h
  exact ⟨k', h1, h2, h3, k.trans h4⟩
theorem RBad.from {rb : Nat} {s : ByteArray} {d : Nat} {c : Int} {w w1 w' : World} (h : RBad rb s d c w1 w') (k : w.grownBy w1 (some rb)) : RBad rb s d c w w' := by
  obtain ⟨k', h1, h3, h4⟩ := h
  exact ⟨k', h1, h3, k.trans h4⟩
theorem Blk.cells4 {w : World} {g : Nat} {t : TypeId} {a b c d : Value} (h : Blk w g t #[a, b, c, d]) : w.cell? ⟨g, 0, none⟩ = some a ∧ w.cell? ⟨g, 1, none⟩ = some b ∧ w.cell? ⟨g, 2, none⟩ = some c ∧ w.cell? ⟨g, 3, none⟩ = some d :=
  ⟨h.cell 0, h.cell 1, h.cell 2, h.cell 3⟩
set_option maxRecDepth 100000 in
theorem rfail_0 (rb : Nat) (s : ByteArray) (k d : Nat) (c : Int) (w : World) (h : RSt w rb s k d 0) : Calls Try.prog 29 #[.pointer (some ⟨rb, 0, none⟩), .int .i64 c] w fun e w' => e = .returned (.tuple #[]) ∧ RSt w' rb s k d c ∧ w.grownBy w' (some rb) := by
  obtain ⟨c0, c1, c2, c3⟩ := h.cells4
  have f3 := h.frozen 3
  have HB := Lib.hid h
  clear h
  go_enter Try.func29, Try.ntmps29
  go_wp2_with fail
  go_end0
  exact ⟨rfl, HB.out.set_ 3 _, grown_set (grown_refl _ _) 3 _⟩
set_option maxRecDepth 100000 in
theorem rfail_no (rb : Nat) (s : ByteArray) (k d : Nat) (e0 c : Int) (he : (e0 == 0) = false) (w : World) (h : RSt w rb s k d e0) : Calls Try.prog 29 #[.pointer (some ⟨rb, 0, none⟩), .int .i64 c] w fun e w' => e = .returned (.tuple #[]) ∧ RSt w' rb s k d e0 ∧ w.grownBy w' (some rb) := by
  obtain ⟨c0, c1, c2, c3⟩ := h.cells4
  have HB := Lib.hid h
  clear h
  go_enter Try.func29, Try.ntmps29
  go_wp2_with fail
  go_end0
  exact ⟨rfl, HB.out, grown_refl _ _⟩
set_option maxRecDepth 100000 in
set_option maxHeartbeats 2000000 in
theorem rblanks_any (rb : Nat) (s : ByteArray) (k d : Nat) (e0 : Int) (w : World) (h : RSt w rb s k d e0) (hk : k ≤ s.size) (hs : s.size ≤ 1000000) :
    Calls Try.prog 28 #[.pointer (some ⟨rb, 0, none⟩)] w fun e w' => e = .returned (.tuple #[]) ∧ ∃ k', k' ≤ s.size ∧ s.toList.drop k' = blanksL (s.toList.drop k) ∧ RSt w' rb s k' d e0 ∧ w.grownBy w' (some rb) := by
  obtain ⟨V, hV⟩ : ∃ V, V = blanksL (s.toList.drop k) := ⟨_, rfl⟩
  rw [← hV]
  have HV : Hid (V = blanksL (s.toList.drop k)) := hV
  have H0 : Hid (RSt w rb s k d e0) := h
  have hb := get_bt s
  clear h hV
  go_enter Try.func28, Try.ntmps28
  go_wp2_with fail
  go_loopg [] (s.size - k) (fun g wr => ∃ k : Nat, k ≤ s.size ∧ s.size - k ≤ g ∧ Hid (V = blanksL (s.toList.drop k)) ∧ Hid (RSt wr rb s k d e0) ∧ Hid (w.grownBy wr (some rb)))
  case atStart => exact ⟨k, hk, Nat.le_refl _, HV, H0, grown_refl _ _⟩
  case round =>
    clear HV H0 hk
    obtain ⟨k, hk, hg, hv, h0, hw⟩ := hrel
    obtain ⟨wo, rfl⟩ : ∃ wo : World, wo = wr := ⟨_, rfl⟩
    obtain ⟨c0, c1, c2, c3⟩ := h0.out.cells4
    have f1 := h0.out.frozen 1
    by_cases hlt : k < s.size
    · obtain ⟨u, hu, hd⟩ := drop_cons s k hlt
      have HD := Lib.hid hd
      have hbl := blankB_eq u (bt s k) hu
      have i0 : (0 : Int) ≤ (k : Int) := by omega
      have i1 : (k : Int) < (s.size : Int) := by omega
      have HU := Lib.hid hu
      clear hd hu
      by_cases q32 : bt s k = 32
      · have HE : Hid (V = blanksL (s.toList.drop (k + 1))) := by show _ = _; rw [hv.out, HD.out, blanksL_cons, if_pos (by rw [hbl, q32]; rfl)]
        clear hbl
        go_wp2_with fail
        go_quiet (fail)
        go_wp2_with fail
        go_roundg (gk - 1)
        case measure => omega
        case rel => exact ⟨k + 1, by omega, by omega, HE, (by have := (h0.out).set_ 1 (.int .i64 ((k + 1 : Nat) : Int)); exact this), grown_set (by first | exact grown_drewN (grown_drewN hw.out _) _ | exact grown_drewN hw.out _) 1 _⟩
      have n32 : (bt s k == 32) = false := by rw [beq_eq_false_iff_ne]; exact q32
      by_cases q9 : bt s k = 9
      · have HE : Hid (V = blanksL (s.toList.drop (k + 1))) := by show _ = _; rw [hv.out, HD.out, blanksL_cons, if_pos (by rw [hbl, q9]; rfl)]
        clear hbl
        go_wp2_with fail
        go_quiet (fail)
        go_wp2_with fail
        go_roundg (gk - 1)
        case measure => omega
        case rel => exact ⟨k + 1, by omega, by omega, HE, (by have := (h0.out).set_ 1 (.int .i64 ((k + 1 : Nat) : Int)); exact this), grown_set (by first | exact grown_drewN (grown_drewN hw.out _) _ | exact grown_drewN hw.out _) 1 _⟩
      have n9 : (bt s k == 9) = false := by rw [beq_eq_false_iff_ne]; exact q9
      by_cases q10 : bt s k = 10
      · have HE : Hid (V = blanksL (s.toList.drop (k + 1))) := by show _ = _; rw [hv.out, HD.out, blanksL_cons, if_pos (by rw [hbl, q10]; rfl)]
        clear hbl
        go_wp2_with fail
        go_quiet (fail)
        go_wp2_with fail
        go_roundg (gk - 1)
        case measure => omega
        case rel => exact ⟨k + 1, by omega, by omega, HE, (by have := (h0.out).set_ 1 (.int .i64 ((k + 1 : Nat) : Int)); exact this), grown_set (by first | exact grown_drewN (grown_drewN hw.out _) _ | exact grown_drewN hw.out _) 1 _⟩
      have n10 : (bt s k == 10) = false := by rw [beq_eq_false_iff_ne]; exact q10
      by_cases q13 : bt s k = 13
      · have HE : Hid (V = blanksL (s.toList.drop (k + 1))) := by show _ = _; rw [hv.out, HD.out, blanksL_cons, if_pos (by rw [hbl, q13]; rfl)]
        clear hbl
        go_wp2_with fail
        go_quiet (fail)
        go_wp2_with fail
        go_roundg (gk - 1)
        case measure => omega
        case rel => exact ⟨k + 1, by omega, by omega, HE, (by have := (h0.out).set_ 1 (.int .i64 ((k + 1 : Nat) : Int)); exact this), grown_set (by first | exact grown_drewN (grown_drewN hw.out _) _ | exact grown_drewN hw.out _) 1 _⟩
      have n13 : (bt s k == 13) = false := by rw [beq_eq_false_iff_ne]; exact q13
      have HE : Hid (V = s.toList.drop k) := by show _ = _; rw [hv.out, HD.out, blanksL_cons, if_neg (by rw [hbl, n32, n9, n10, n13]; simp)]
      clear hbl
      go_wp2_with fail
      go_quiet (fail)
      go_wp2_with fail
      go_end0
      exact ⟨rfl, k, hk, HE.out.symm, h0.out, by first | exact grown_drewN (grown_drewN hw.out _) _ | exact grown_drewN hw.out _⟩
    · have i1 : ¬ (k : Int) < (s.size : Int) := by omega
      have HE : Hid (V = s.toList.drop k) := by show _ = _; rw [hv.out, drop_end s k (by omega)]; rfl
      go_wp2_with fail
      go_quiet (fail)
      go_wp2_with fail
      go_end0
      exact ⟨rfl, k, hk, HE.out.symm, h0.out, grown_drewN hw.out _⟩
set_option maxRecDepth 100000 in
set_option maxHeartbeats 1000000 in
/-- a byte stands there -/
theorem ris_yes (rb : Nat) (s : ByteArray) (k d : Nat) (c : Int) (w : World) (h : RSt w rb s k d 0) (hlt : k < s.size) (hs : s.size ≤ 1000000) (hc : bt s k = c) :
    Calls Try.prog 59 #[.pointer (some ⟨rb, 0, none⟩), .int .u8 c] w fun e w' => e = .returned (.bool true) ∧ RSt w' rb s (k + 1) d 0 ∧ w.grownBy w' (some rb) := by
  subst hc
  obtain ⟨c0, c1, c2, c3⟩ := h.cells4
  have f1 := h.frozen 1
  have H0 := Lib.hid h
  have hb := get_bt s
  have i0 : (0 : Int) ≤ (k : Int) := by omega
  have i1 : (k : Int) < (s.size : Int) := by omega
  clear h
  go_enter Try.func59, Try.ntmps59
  go_wp2_with fail
  go_quiet (fail)
  go_wp2_with fail
  go_ret
  exact ⟨rfl, (by have := (H0.out).set_ 1 (.int .i64 ((k + 1 : Nat) : Int)); exact this), grown_set (grown_drewN (grown_refl _ _) _) 1 _⟩
set_option maxRecDepth 100000 in
set_option maxHeartbeats 1000000 in
theorem ris_no (rb : Nat) (s : ByteArray) (k d : Nat) (c : Int) (w : World) (h : RSt w rb s k d 0) (hne : k < s.size → (bt s k == c) = false) :
    Calls Try.prog 59 #[.pointer (some ⟨rb, 0, none⟩), .int .u8 c] w fun e w' => e = .returned (.bool false) ∧ RSt w' rb s k d 0 ∧ w.grownBy w' (some rb) := by
  obtain ⟨c0, c1, c2, c3⟩ := h.cells4
  have H0 := Lib.hid h
  have hb := get_bt s
  by_cases hlt : k < s.size
  · have i0 : (0 : Int) ≤ (k : Int) := by omega
    have i1 : (k : Int) < (s.size : Int) := by omega
    have hn := hne hlt
    clear h hne
    go_enter Try.func59, Try.ntmps59
    go_wp2_with fail
    go_quiet (fail)
    go_wp2_with fail
    go_ret
    exact ⟨rfl, H0.out, grown_drewN (grown_refl _ _) _⟩
  · have i1 : ¬ (k : Int) < (s.size : Int) := by omega
    clear h hne
    go_enter Try.func59, Try.ntmps59
    go_wp2_with fail
    go_quiet (fail)
    go_wp2_with fail
    go_ret
    exact ⟨rfl, H0.out, grown_drewN (grown_refl _ _) _⟩
set_option maxRecDepth 100000 in
set_option maxHeartbeats 1000000 in
theorem ris_err (rb : Nat) (s : ByteArray) (k d : Nat) (c e0 : Int) (he : (e0 == 0) = false) (w : World) (h : RSt w rb s k d e0) :
    Calls Try.prog 59 #[.pointer (some ⟨rb, 0, none⟩), .int .u8 c] w fun e w' => e = .returned (.bool false) ∧ RSt w' rb s k d e0 ∧ w.grownBy w' (some rb) := by
  obtain ⟨c0, c1, c2, c3⟩ := h.cells4
  have H0 := Lib.hid h
  clear h
  go_enter Try.func59, Try.ntmps59
  go_wp2_with fail
  go_quiet (fail)
  go_wp2_with fail
  go_ret
  exact ⟨rfl, H0.out, grown_drewN (grown_refl _ _) _⟩
end Go.Proofs.Ytnhoecmcbikcnaa
/-! The reference's reader: words, hexadecimal digits. -/
namespace Go.Proofs.Ytnhoecmcbikcnaa
open Go.RowKit Go.PlainAid
set_option linter.unusedVariables false
set_option linter.unusedSimpArgs false
/-- five cells laid into a block of the call's own -/
theorem laid5 {w0 w : World} {y : Nat} {r : Option Nat} {t : TypeId} {a0 b0 c0 d0 e0 : Value} (hy : Blk w y t #[a0, b0, c0, d0, e0]) (hg : w0.grownBy w r) (hz : w0.heap.size ≤ y) (a b c d e : Value) :
    Blk (((((w.setCell ⟨y, 0, none⟩ a).setCell ⟨y, 1, none⟩ b).setCell ⟨y, 2, none⟩ c).setCell ⟨y, 3, none⟩ d).setCell ⟨y, 4, none⟩ e) y t #[a, b, c, d, e] ∧
    w0.grownBy (((((w.setCell ⟨y, 0, none⟩ a).setCell ⟨y, 1, none⟩ b).setCell ⟨y, 2, none⟩ c).setCell ⟨y, 3, none⟩ d).setCell ⟨y, 4, none⟩ e) r ∧
    (((((w.setCell ⟨y, 0, none⟩ a).setCell ⟨y, 1, none⟩ b).setCell ⟨y, 2, none⟩ c).setCell ⟨y, 3, none⟩ d).setCell ⟨y, 4, none⟩ e).heap.size = w.heap.size ∧
    ∀ g, g ≠ y → (((((w.setCell ⟨y, 0, none⟩ a).setCell ⟨y, 1, none⟩ b).setCell ⟨y, 2, none⟩ c).setCell ⟨y, 3, none⟩ d).setCell ⟨y, 4, none⟩ e).heap[g]? = w.heap[g]? := by
  refine ⟨(((((hy.set_ 0 a).set_ 1 b).set_ 2 c).set_ 3 d).set_ 4 e), grown_new (grown_new (grown_new (grown_new (grown_new hg hz 0 _) hz 1 _) hz 2 _) hz 3 _) hz 4 _, by simp, fun g hg => ?_⟩
  rw [Below.heap_setCell _ _ _ _ hg, Below.heap_setCell _ _ _ _ hg, Below.heap_setCell _ _ _ _ hg, Below.heap_setCell _ _ _ _ hg, Below.heap_setCell _ _ _ _ hg]
def MatchAt (s t : ByteArray) (k i : Nat) : Prop := k + i < s.size ∧ bt s (k + i) = bt t i
theorem bt_get (s : ByteArray) (k : Nat) (h : k < s.size) : ∃ u : UInt8, s.toList[k]? = some u ∧ bt s k = u.toNat := by
  have h2 : k < s.toList.length := by rw [toList_len]; exact h
  exact ⟨s.toList[k], List.getElem?_eq_getElem h2, bt_eq s k _ (List.getElem?_eq_getElem h2)⟩
theorem match_at {s t : ByteArray} {k i : Nat} (h : (s.toList.drop k).take t.size = t.toList) (hi : i < t.size) : MatchAt s t k i := by
  obtain ⟨u, h1, h2⟩ := bt_get t i hi
  have h3 : ((s.toList.drop k).take t.size)[i]? = some u := by rw [h]; exact h1
  rw [List.getElem?_take, if_pos hi, List.getElem?_drop] at h3
  have h4 := (List.getElem?_eq_some_iff.1 h3).1
  rw [toList_len] at h4
  exact ⟨h4, by rw [bt_eq s (k + i) u h3, h2]⟩
theorem match_all {s t : ByteArray} {k : Nat} (h : ∀ i, i < t.size → MatchAt s t k i) : (s.toList.drop k).take t.size = t.toList := by
  apply List.ext_getElem?
  intro i
  rw [List.getElem?_take]
  by_cases hi : i < t.size
  · rw [if_pos hi, List.getElem?_drop]
    obtain ⟨h1, h2⟩ := h i hi
    obtain ⟨u, h3, h4⟩ := bt_get t i hi
    obtain ⟨v, h5, h6⟩ := bt_get s (k + i) h1
    rw [h3, h5]
    congr 1
    exact UInt8.toNat_inj.1 (by omega)
  · rw [if_neg hi, List.getElem?_eq_none (by rw [toList_len]; omega)]
def WordEnd (rb : Nat) (s : ByteArray) (k d : Nat) (t : ByteArray) (kd : Int) (w : World) (e : Ending) (w' : World) : Prop :=
  e = .returned (.agg #[.int .i64 kd, .int .i64 0, .string ⟨#[]⟩, .slice none 0 0, .slice none 0 0]) ∧ if (s.toList.drop k).take t.size = t.toList then RTo rb s d ((s.toList.drop k).drop t.size) w w' else RBad rb s d 3 w w'
set_option maxRecDepth 100000 in
set_option maxHeartbeats 2000000 in
theorem rword_any (rb : Nat) (s : ByteArray) (k d : Nat) (t : ByteArray) (kd : Int) (ht : t.size ≤ 5) (w : World) (h : RSt w rb s k d 0) (hk : k ≤ s.size) (hs : s.size ≤ 1000000) :
    Calls Try.prog 47 #[.pointer (some ⟨rb, 0, none⟩), .string t, .int .i64 kd] w (WordEnd rb s k d t kd w) := by
  have hrb := h.lt
  have hb := get_bt t
  have R0 : Hid (RSt (w.alloc (.cells #[.int .i64 0, .int .i64 0, .string ⟨#[]⟩, .slice none 0 0, .slice none 0 0] 27)) rb s k d 0) := h.alloc _
  have Y0 : Hid (Blk (w.alloc (.cells #[.int .i64 0, .int .i64 0, .string ⟨#[]⟩, .slice none 0 0, .slice none 0 0] 27)) w.heap.size 27 #[.int .i64 0, .int .i64 0, .string ⟨#[]⟩, .slice none 0 0, .slice none 0 0]) := Blk.new w _ _
  have G0 : Hid (w.grownBy (w.alloc (.cells #[.int .i64 0, .int .i64 0, .string ⟨#[]⟩, .slice none 0 0, .slice none 0 0] 27)) (some rb)) := World.grownBy_alloc w _ _
  have I0 : Hid ((∀ i', i' < 0 → MatchAt s t k i') ∧ RSt (w.alloc (.cells #[.int .i64 0, .int .i64 0, .string ⟨#[]⟩, .slice none 0 0, .slice none 0 0] 27)) rb s (k + 0) d 0 ∨ (∃ i', i' < t.size ∧ ¬ MatchAt s t k i') ∧ ∃ k', k' ≤ s.size ∧ RSt (w.alloc (.cells #[.int .i64 0, .int .i64 0, .string ⟨#[]⟩, .slice none 0 0, .slice none 0 0] 27)) rb s k' d 3) := .inl ⟨fun i' h => by omega, R0.out⟩
  clear h R0
  go_enter Try.func47, Try.ntmps47
  go_wp2_with fail
  go_loopg [7] t.size (fun g t7 wr => ∃ i : Nat, i ≤ t.size ∧ t.size - i ≤ g ∧ t7 = .int .i64 i ∧ Hid ((∀ i', i' < i → MatchAt s t k i') ∧ RSt wr rb s (k + i) d 0 ∨ (∃ i', i' < t.size ∧ ¬ MatchAt s t k i') ∧ ∃ k', k' ≤ s.size ∧ RSt wr rb s k' d 3) ∧ Hid (w.grownBy wr (some rb)) ∧ Hid (Blk wr w.heap.size 27 #[.int .i64 0, .int .i64 0, .string ⟨#[]⟩, .slice none 0 0, .slice none 0 0]))
  case atStart => exact ⟨0, by omega, by omega, rfl, I0, G0, Y0⟩
  case round =>
    clear I0 G0 Y0
    obtain ⟨i, hi, hg, rfl, hI, hw, hy⟩ := hrel
    obtain ⟨wo, rfl⟩ : ∃ wo : World, wo = wr := ⟨_, rfl⟩
    have hne : ¬ w.heap.size = rb := by omega
    have HNE : Hid (some w.heap.size ≠ some rb) := by intro e; injection e with e; exact hne e
    clear hne
    by_cases hlt : i < t.size
    · have i0 : (0 : Int) ≤ (i : Int) := by omega
      have i1 : (i : Int) < (t.size : Int) := by omega
      have hgg : t.size - (i + 1) ≤ gk - 1 := by omega
      have hg1 : 0 < gk := by omega
      rcases hI.out with ⟨hm, hst⟩ | ⟨hm, k', hk', hst⟩
      · by_cases hmi : MatchAt s t k i
        · have HM2 : Hid (∀ i', i' < i + 1 → MatchAt s t k i') := fun i' h => by
            by_cases e : i' = i
            · subst e; exact hmi
            · exact hm i' (by omega)
          have HC := Lib.hid (ris_yes rb s (k + i) d (bt t i) wo hst hmi.1 hs hmi.2)
          clear hm hst hmi hI
          go_wp2_with fail
          refine HC.out.mono ?_; rintro e w1 ⟨rfl, h1, g1⟩
          have H1 := Lib.hid h1
          have G1 := Lib.hid (hw.out.trans g1)
          have Y1 := Lib.hid (hy.out.grown g1 HNE.out)
          clear h1 g1
          go_wp2_with fail
          go_roundg (gk - 1)
          case measure => omega
          case rel => exact ⟨i + 1, by omega, hgg, by go_num, .inl ⟨HM2.out, H1.out⟩, G1, Y1⟩
        · have HN2 : Hid (∃ i', i' < t.size ∧ ¬ MatchAt s t k i') := ⟨i, hlt, hmi⟩
          have HC := Lib.hid (ris_no rb s (k + i) d (bt t i) wo hst (fun hl => by rw [beq_eq_false_iff_ne]; intro e; exact hmi ⟨hl, e⟩))
          have hki : Hid (k + i ≤ s.size) := by
            show _ ≤ _
            by_cases e : i = 0
            · omega
            · have := (hm (i - 1) (by omega)).1; omega
          clear hm hst hmi hI
          go_wp2_with fail
          refine HC.out.mono ?_; rintro e w1 ⟨rfl, h1, g1⟩
          have H1 := Lib.hid h1
          have G1 := Lib.hid (hw.out.trans g1)
          have Y1 := Lib.hid (hy.out.grown g1 HNE.out)
          clear h1 g1
          go_wp2_with fail
          refine (rfail_0 rb s (k + i) d 3 w1 H1.out).mono ?_; rintro e w2 ⟨rfl, h2, g2⟩
          have H2 := Lib.hid h2
          have G2 := Lib.hid (G1.out.trans g2)
          have Y2 := Lib.hid (Y1.out.grown g2 HNE.out)
          clear h2 g2
          go_wp2_with fail
          go_roundg (gk - 1)
          case measure => omega
          case rel => exact ⟨i + 1, by omega, hgg, by go_num, .inr ⟨HN2.out, k + i, hki.out, H2.out⟩, G2, Y2⟩
      · have HN2 := Lib.hid hm
        have HC := Lib.hid (ris_err rb s k' d (bt t i) 3 rfl wo hst)
        have HK := Lib.hid hk'
        clear hm hst hI hk'
        go_wp2_with fail
        refine HC.out.mono ?_; rintro e w1 ⟨rfl, h1, g1⟩
        have H1 := Lib.hid h1
        have G1 := Lib.hid (hw.out.trans g1)
        have Y1 := Lib.hid (hy.out.grown g1 HNE.out)
        clear h1 g1
        go_wp2_with fail
        refine (rfail_no rb s k' d 3 3 rfl w1 H1.out).mono ?_; rintro e w2 ⟨rfl, h2, g2⟩
        have H2 := Lib.hid h2
        have G2 := Lib.hid (G1.out.trans g2)
        have Y2 := Lib.hid (Y1.out.grown g2 HNE.out)
        clear h2 g2
        go_wp2_with fail
        go_roundg (gk - 1)
        case measure => omega
        case rel => exact ⟨i + 1, by omega, hgg, by go_num, .inr ⟨HN2.out, k', HK.out, H2.out⟩, G2, Y2⟩
    · obtain rfl : i = t.size := by omega
      have i1 : ¬ (t.size : Int) < (t.size : Int) := by omega
      obtain ⟨z0, z1, z2, z3, z4⟩ := hy.out.cells5
      have f0 := hy.out.frozen 0
      have f1 := hy.out.frozen 1
      have f2 := hy.out.frozen 2
      have f3 := hy.out.frozen 3
      have f4 := hy.out.frozen 4
      obtain ⟨hfin, hgr, hsz, hot⟩ := laid5 hy.out hw.out (Nat.le_refl _) (.int .i64 kd) (.int .i64 0) (.string ⟨#[]⟩) (.slice none 0 0) (.slice none 0 0)
      have HFIN := Lib.hid hfin
      have HGR := Lib.hid hgr
      have HOT := Lib.hid hot
      clear hfin hgr hsz hot
      go_wp2_with fail
      clear f0 f1 f2 f3 f4 z0 z1 z2 z3 z4
      generalize (((((wo.setCell ⟨w.heap.size, 0, none⟩ (.int .i64 kd)).setCell ⟨w.heap.size, 1, none⟩ (.int .i64 0)).setCell ⟨w.heap.size, 2, none⟩ (.string ⟨#[]⟩)).setCell ⟨w.heap.size, 3, none⟩ (.slice none 0 0)).setCell ⟨w.heap.size, 4, none⟩ (.slice none 0 0)) = WF at *
      obtain ⟨q0, q1, q2, q3, q4⟩ := HFIN.out.cells5
      refine bodyPost_ret (v := .agg #[.int .i64 kd, .int .i64 0, .string ⟨#[]⟩, .slice none 0 0, .slice none 0 0]) (by simp [results, Try.results47, go_sem, q0, q1, q2, q3, q4]) rfl ?_
      refine ⟨rfl, ?_⟩
      have hrw : ∀ k' d' e', RSt wo rb s k' d' e' → RSt WF rb s k' d' e' := fun k' d' e' h => (HOT.out rb (by omega)).trans h
      rcases hI.out with ⟨hm, hst⟩ | ⟨⟨i', h1, h2⟩, k', hk', hst⟩
      · rw [if_pos (match_all hm)]
        refine ⟨k + t.size, ?_, by rw [List.drop_drop], hrw _ _ _ hst, HGR.out⟩
        by_cases e : t.size = 0
        · omega
        · have := (hm (t.size - 1) (by omega)).1; omega
      · rw [if_neg (fun h => h2 (match_at h h1))]
        exact ⟨k', hk', hrw _ _ _ hst, HGR.out⟩
/-! hexadecimal digits -/
set_option maxRecDepth 100000 in
theorem rhalf_any (u : UInt8) (c : Int) (hc : c = u.toNat) (w : World) : Calls Try.prog 70 #[.int .u8 c] w fun e w' => e = .returned (.int .i64 ((hexD u).getD (-1))) ∧ w = w' := by
  have c0 : 0 ≤ c := by omega
  have c1 : c ≤ 255 := by have := u.toNat_lt; omega
  obtain ⟨V, hV⟩ : ∃ V, V = (hexD u).getD (-1) := ⟨_, rfl⟩
  rw [← hV]
  rcases (by omega : (0 ≤ c ∧ c ≤ 47) ∨ (48 ≤ c ∧ c ≤ 57) ∨ (58 ≤ c ∧ c ≤ 64) ∨ (65 ≤ c ∧ c ≤ 70) ∨ (71 ≤ c ∧ c ≤ 96) ∨ (97 ≤ c ∧ c ≤ 102) ∨ (103 ≤ c ∧ c ≤ 255)) with hr | hr | hr | hr | hr | hr | hr
  all_goals
    first
      | (have E1 : Hid (V = -1) := by (show _ = _; rw [hV]; unfold hexD; rw [if_neg (by omega), if_neg (by omega), if_neg (by omega)]; rfl))
      | (have E1 : Hid (V = c - 48) := by (show _ = _; rw [hV]; unfold hexD; rw [if_pos (by omega), ← hc]; rfl))
      | (have E1 : Hid (V = c - 87) := by (show _ = _; rw [hV]; unfold hexD; rw [if_neg (by omega), if_pos (by omega), ← hc]; rfl))
      | (have E1 : Hid (V = c - 55) := by (show _ = _; rw [hV]; unfold hexD; rw [if_neg (by omega), if_neg (by omega), if_pos (by omega), ← hc]; rfl))
    obtain ⟨r0, r1⟩ := hr
    first
      | (have x1 : IntKind.u8.wrap (c - 48) = c - 48 := wraps_u8 _ (by omega) (by omega); have x2 : IntKind.i64.wrap (c - 48) = c - 48 := IntWalk.i64_in _ (by omega))
      | skip
    first
      | (have x3 : IntKind.u8.wrap (c - 65) = c - 65 := wraps_u8 _ (by omega) (by omega); have x4 : IntKind.i64.wrap (c - 65) = c - 65 := IntWalk.i64_in _ (by omega))
      | skip
    first
      | (have x5 : IntKind.u8.wrap (c - 97) = c - 97 := wraps_u8 _ (by omega) (by omega); have x6 : IntKind.i64.wrap (c - 97) = c - 97 := IntWalk.i64_in _ (by omega))
      | skip
    clear hV hc
    go_enter Try.func70, Try.ntmps70
    go_wp2_with fail
    go_ret
    exact ⟨by rw [E1.out]; first | rfl | (show Ending.returned (.int .i64 (c - 65 + 10)) = _; congr 2; omega) | (show Ending.returned (.int .i64 (c - 97 + 10)) = _; congr 2; omega), rfl⟩
def RInt (rb : Nat) (s : ByteArray) (d : Nat) (r : Option (Int × List UInt8)) (w : World) (e : Ending) (w' : World) : Prop :=
  match r with
  | none => e = .returned (.int .i64 (-1)) ∧ RBad rb s d 3 w w'
  | some (n, l) => e = .returned (.int .i64 n) ∧ RTo rb s d l w w'
theorem RInt.no {rb : Nat} {s : ByteArray} {d : Nat} {r : Option (Int × List UInt8)} {w : World} {e : Ending} {w' : World} (hr : r = none) (h : e = .returned (.int .i64 (-1)) ∧ RBad rb s d 3 w w') : RInt rb s d r w e w' := by subst hr; exact h
theorem RInt.yes {rb : Nat} {s : ByteArray} {d : Nat} {r : Option (Int × List UInt8)} {n : Int} {l : List UInt8} {w : World} {e : Ending} {w' : World} (hr : r = some (n, l)) (h : e = .returned (.int .i64 n) ∧ RTo rb s d l w w') : RInt rb s d r w e w' := by subst hr; exact h
set_option maxRecDepth 100000 in
set_option maxHeartbeats 2000000 in
theorem rhex_any (rb : Nat) (s : ByteArray) (k d : Nat) (w : World) (h : RSt w rb s k d 0) (hk : k ≤ s.size) (hs : s.size ≤ 1000000) :
    Calls Try.prog 66 #[.pointer (some ⟨rb, 0, none⟩)] w (RInt rb s d (unitL 4 0 (s.toList.drop k)) w) := by
  obtain ⟨V, hV⟩ : ∃ V, V = unitL 4 0 (s.toList.drop k) := ⟨_, rfl⟩
  rw [← hV]
  have HV : Hid (V = unitL 4 0 (s.toList.drop k)) := hV
  have H0 := Lib.hid h
  have hb := get_bt s
  clear hV h
  go_enter Try.func66, Try.ntmps66
  go_wp2_with fail
  go_loopg [3, 4] 4 (fun g t3 t4 wr => ∃ (j i : Nat) (N : Int), j ≤ s.size ∧ i + g = 4 ∧ t4 = .int .i64 i ∧ t3 = .int .i64 N ∧ Hid (V = unitL g N (s.toList.drop j)) ∧ Hid (0 ≤ N ∧ N < 16 ^ i) ∧ Hid (RSt wr rb s j d 0) ∧ Hid (w.grownBy wr (some rb)))
  case atStart => exact ⟨k, 0, 0, hk, rfl, rfl, rfl, HV, (by show _ ∧ _; omega), H0, grown_refl _ _⟩
  case round =>
    clear HV H0
    obtain ⟨j, i, N, hj, hig, rfl, rfl, hv, hN, h0, hw⟩ := hrel
    obtain ⟨wo, rfl⟩ : ∃ wo : World, wo = wr := ⟨_, rfl⟩
    have hi4 : i ≤ 4 := by omega
    by_cases hlt : i < 4
    · have di : decide ((i : Int) < 4) = true := decide_eq_true (by omega)
      obtain ⟨c0, c1, c2, c3⟩ := h0.out.cells4
      have f1 := h0.out.frozen 1
      have hpb := pow_bd i hi4
      have hgs : gk = (gk - 1) + 1 := by omega
      by_cases hjs : j < s.size
      · obtain ⟨u, hu, hd⟩ := drop_cons s j hjs
        have i0 : (0 : Int) ≤ (j : Int) := by omega
        have i1 : (j : Int) < (s.size : Int) := by omega
        have b0 := bt_nonneg s j
        have b1 := bt_le s j
        have hj1 : j + 1 ≤ s.size := by omega
        have hig2 : (i + 1) + (gk - 1) = 4 := by omega
        have hN0 := hN.out.1
        have hN1 : N < 65536 := by have := hN.out.2; omega
        have HC : Hid (∀ w', Calls Try.prog 70 #[.int .u8 (bt s j)] w' fun e w2 => e = .returned (.int .i64 ((hexD u).getD (-1))) ∧ w' = w2) := fun w' => rhalf_any u (bt s j) hu w'
        cases hx : hexD u with
        | none =>
          have E1 : Hid (V = none) := by
            show _ = _
            rw [hv.out, hgs, hd]
            conv => lhs; unfold unitL
            rw [hx]
          rw [hx] at HC
          have HC2 : Hid (∀ w', Calls Try.prog 70 #[.int .u8 (bt s j)] w' fun e w2 => e = .returned (.int .i64 (-1)) ∧ w' = w2) := HC.out
          clear hd hu hx hgs hpb HC
          go_wp2_with fail
          go_quiet (fail)
          go_wp2_with fail
          have HQ : Hid (RSt (wo.drewN nq) rb s j d 0) := h0.out
          have GQ : Hid (w.grownBy (wo.drewN nq) (some rb)) := grown_drewN hw.out _
          clear c0 c1 c2 c3 f1 hw h0
          generalize wo.drewN nq = wd at *
          obtain ⟨c0, c1, c2, c3⟩ := HQ.out.cells4
          have f1 := HQ.out.frozen 1
          go_region_held3 (fun w' => w'.cell? ⟨rb, 0, none⟩ = some (.string s) ∧ w'.cell? ⟨rb, 1, none⟩ = some (.int .i64 j) ∧ ∃ n, w' = wd.drewN n) (first | exact ⟨c0, c1, _, rfl⟩ | exact ⟨c0, c1, 0, rfl⟩ | exact ⟨c0, c1, 1, rfl⟩) ((go_at_call 70; refine (HC2.out _).mono ?_; rintro e w4 ⟨rfl, hw4⟩; obtain rfl : _ = w4 := hw4))
          go_wp2_with fail
          have HQ2 : Hid (∀ n, RSt (wd.drewN n) rb s j d 0) := fun n => HQ.out
          refine (rfail_0 rb s j d 3 _ (HQ2.out _)).mono ?_; rintro e w9 ⟨rfl, h9, g9⟩
          have H9 := Lib.hid h9
          have G9 := Lib.hid ((grown_drewN GQ.out _).trans g9)
          clear h9 g9
          go_wp2_with fail
          go_ret
          exact RInt.no E1.out ⟨rfl, j, hj, H9.out, G9.out⟩
        | some x =>
          have hb2 := hexD_bd hx
          have E1 : Hid (V = unitL (gk - 1) (N * 16 + x) (s.toList.drop (j + 1))) := by
            show _ = _
            rw [hv.out, hgs, hd]
            simp only [Nat.add_sub_cancel]
            conv => lhs; unfold unitL
            rw [hx]
          rw [hx] at HC
          have HC2 : Hid (∀ w', Calls Try.prog 70 #[.int .u8 (bt s j)] w' fun e w2 => e = .returned (.int .i64 x) ∧ w' = w2) := HC.out
          have HNB : Hid (0 ≤ N * 16 + x ∧ N * 16 + x < 16 ^ (i + 1)) := by
            have h6 := hN.out.2
            show _ ∧ _
            rw [Int.pow_succ]
            omega
          obtain ⟨x0, x1⟩ := hb2
          have dx : decide (x < 0) = false := decide_eq_false (by omega)
          clear hd hu hx hgs hpb HC
          go_wp2_with fail
          go_quiet (fail)
          go_wp2_with fail
          have HQ : Hid (RSt (wo.drewN nq) rb s j d 0) := h0.out
          have GQ : Hid (w.grownBy (wo.drewN nq) (some rb)) := grown_drewN hw.out _
          clear c0 c1 c2 c3 f1 hw h0
          generalize wo.drewN nq = wd at *
          obtain ⟨c0, c1, c2, c3⟩ := HQ.out.cells4
          have f1 := HQ.out.frozen 1
          go_region_held3 (fun w' => w'.cell? ⟨rb, 0, none⟩ = some (.string s) ∧ w'.cell? ⟨rb, 1, none⟩ = some (.int .i64 j) ∧ ∃ n, w' = wd.drewN n) (first | exact ⟨c0, c1, _, rfl⟩ | exact ⟨c0, c1, 0, rfl⟩ | exact ⟨c0, c1, 1, rfl⟩) ((go_at_call 70; refine (HC2.out _).mono ?_; rintro e w4 ⟨rfl, hw4⟩; obtain rfl : _ = w4 := hw4))
          go_wp2_with fail
          go_roundg (gk - 1)
          case measure => omega
          case rel => exact ⟨j + 1, i + 1, N * 16 + x, hj1, hig2, by go_num, by first | rfl | (congr 1; omega), E1, HNB, (by exact HQ.out.set_ 1 (.int .i64 ((j + 1 : Nat) : Int))), by first | exact grown_drew (grown_set GQ.out 1 _) | exact grown_set (grown_drew GQ.out) 1 _⟩
      · have i1 : ¬ (j : Int) < (s.size : Int) := by omega
        have E1 : Hid (V = none) := by
          show _ = _
          rw [hv.out, hgs, drop_end s j (by omega)]
          rfl
        have H4 : Hid (∀ n, RSt (wo.drewN n) rb s j d 0) := fun n => h0.out
        have G4 : Hid (∀ n, w.grownBy (wo.drewN n) (some rb)) := fun n => grown_drewN hw.out _
        clear hgs hpb
        go_wp2_with fail
        go_quiet (fail)
        go_wp2_with fail
        refine (rfail_0 rb s j d 3 _ (H4.out _)).mono ?_; rintro e w9 ⟨rfl, h9, g9⟩
        have H9 := Lib.hid h9
        have G9 := Lib.hid ((G4.out _).trans g9)
        clear h9 g9
        go_wp2_with fail
        go_ret
        exact RInt.no E1.out ⟨rfl, j, hj, H9.out, G9.out⟩
    · have di : decide ((i : Int) < 4) = false := decide_eq_false (by omega)
      have E1 : Hid (V = some (N, s.toList.drop j)) := by
        show _ = _
        rw [hv.out, show gk = 0 by omega]
        rfl
      go_wp2_with fail
      go_ret
      exact RInt.yes E1.out ⟨rfl, j, hj, rfl, h0.out, hw.out⟩
end Go.Proofs.Ytnhoecmcbikcnaa
/-! The reference's reader: what stands behind a backslash. -/
namespace Go.Proofs.Ytnhoecmcbikcnaa
open Go.RowKit Go.PlainAid
set_option linter.unusedVariables false
set_option linter.unusedSimpArgs false
/-- a text, or an error and any text -/
def RStr (rb : Nat) (s : ByteArray) (d : Nat) (r : Option (List UInt8 × List UInt8)) (w : World) (e : Ending) (w' : World) : Prop :=
  match r with
  | none => (∃ t : ByteArray, t.size ≤ 4 ∧ e = .returned (.string t)) ∧ RBad rb s d 3 w w'
  | some (b, l) => e = .returned (.string ⟨b.toArray⟩) ∧ RTo rb s d l w w'
theorem RStr.no {rb : Nat} {s : ByteArray} {d : Nat} {r : Option (List UInt8 × List UInt8)} {w : World} {e : Ending} {w' : World} (hr : r = none) (h : (∃ t : ByteArray, t.size ≤ 4 ∧ e = .returned (.string t)) ∧ RBad rb s d 3 w w') : RStr rb s d r w e w' := by subst hr; exact h
theorem RStr.yes {rb : Nat} {s : ByteArray} {d : Nat} {r : Option (List UInt8 × List UInt8)} {b l : List UInt8} {w : World} {e : Ending} {w' : World} (hr : r = some (b, l)) (h : e = .returned (.string ⟨b.toArray⟩) ∧ RTo rb s d l w w') : RStr rb s d r w e w' := by subst hr; exact h
theorem put_size4 (n : Int) : (put n).size ≤ 4 := by rw [put_arr]; exact putB_len n
/-- what stands behind the u: four digits, or eight with the next sign between -/
def uL (r : List UInt8) : Option (List UInt8 × List UInt8) := match pointL r with
  | none => none
  | some (n, r2) => some (putB n, r2)
theorem take2 {s : ByteArray} {k : Nat} (h : (s.toList.drop k).take 2 = [92, 117]) : (k < s.size ∧ bt s k = 92) ∧ (k + 1 < s.size ∧ bt s (k + 1) = 117) := by
  have h1 : ((s.toList.drop k).take 2)[0]? = some 92 := by rw [h]; rfl
  have h2 : ((s.toList.drop k).take 2)[1]? = some 117 := by rw [h]; rfl
  rw [List.getElem?_take, if_pos (by omega), List.getElem?_drop] at h1 h2
  have z1 := (List.getElem?_eq_some_iff.1 h1).1
  have z2 := (List.getElem?_eq_some_iff.1 h2).1
  rw [toList_len] at z1 z2
  exact ⟨⟨by omega, bt_eq s k 92 (by simpa using h1)⟩, ⟨z2, bt_eq s (k + 1) 117 h2⟩⟩
theorem take2_mk {s : ByteArray} {k : Nat} (h1 : k < s.size) (h2 : bt s k = 92) (h3 : k + 1 < s.size) (h4 : bt s (k + 1) = 117) : (s.toList.drop k).take 2 = [92, 117] := by
  obtain ⟨u, hu, hd⟩ := drop_cons s k h1
  obtain ⟨v, hv, hd2⟩ := drop_cons s (k + 1) h3
  rw [hd, hd2]
  have e1 : u = 92 := UInt8.toNat_inj.1 (by have : ((92 : UInt8).toNat) = 92 := rfl; omega)
  have e2 : v = 117 := UInt8.toNat_inj.1 (by have : ((117 : UInt8).toNat) = 117 := rfl; omega)
  rw [e1, e2]; rfl
theorem uL_none {r : List UInt8} (h : unitL 4 0 r = none) : uL r = none := by unfold uL pointL; rw [h]
theorem uL_some {r : List UInt8} {n : Int} {r1 : List UInt8} (h : unitL 4 0 r = some (n, r1)) : uL r = if n < 55296 ∨ 57343 < n then some (putB n, r1) else if 56320 ≤ n then none else if r1.take 2 = [92, 117] then
      (match unitL 4 0 (r1.drop 2) with
      | none => none
      | some (low, r2) => if low < 56320 ∨ 57343 < low then none else some (putB (65536 + (n % 1024) * 1024 + low % 1024), r2))
    else none := by
  unfold uL pointL
  rw [h]
  simp only
  by_cases a : n < 55296 ∨ 57343 < n
  · rw [if_pos a, if_pos a]
  rw [if_neg a, if_neg a]
  by_cases b : 56320 ≤ n
  · rw [if_pos b, if_pos b]
  rw [if_neg b, if_neg b]
  by_cases c : r1.take 2 = [92, 117]
  · rw [if_pos c, if_pos c]
    cases unitL 4 0 (r1.drop 2) with
    | none => rfl
    | some p =>
      obtain ⟨low, r2⟩ := p
      simp only
      by_cases q : low < 56320 ∨ 57343 < low
      · rw [if_pos q, if_pos q]
      · rw [if_neg q, if_neg q]
  · rw [if_neg c, if_neg c]
set_option maxRecDepth 100000 in
set_option maxHeartbeats 4000000 in
theorem rescape_u (rb : Nat) (s : ByteArray) (k d : Nat) (w : World) (h : RSt w rb s k d 0) (hk : k ≤ s.size) (hs : s.size ≤ 1000000) (hlt : k < s.size) (q117 : bt s k = 117)
    (H4 : Hid (∀ n, RSt ((w.drewN n).setCell ⟨rb, 1, none⟩ (.int .i64 ((k : Int) + 1))) rb s (k + 1) d 0)) : Calls Try.prog 60 #[.pointer (some ⟨rb, 0, none⟩)] w (RStr rb s d (uL (s.toList.drop (k + 1))) w) := by
  obtain ⟨V, hV⟩ : ∃ V, V = uL (s.toList.drop (k + 1)) := ⟨_, rfl⟩
  rw [← hV]
  have hb := get_bt s
  obtain ⟨c0, c1, c2, c3⟩ := h.cells4
  have f1 := h.frozen 1
  have i0 : (0 : Int) ≤ (k : Int) := by omega
  have i1 : (k : Int) < (s.size : Int) := by omega
  have i2 : decide ((s.size : Int) ≤ (k : Int)) = false := decide_eq_false (by omega)
  have hj1 : k + 1 ≤ s.size := by omega
  have G4 : Hid (∀ n, w.grownBy ((w.drewN n).setCell ⟨rb, 1, none⟩ (.int .i64 ((k : Int) + 1))) (some rb)) := fun n => grown_set (grown_drewN (grown_refl _ _) _) 1 _
  have HX : Hid (∀ n, Calls Try.prog 66 #[.pointer (some ⟨rb, 0, none⟩)] ((w.drewN n).setCell ⟨rb, 1, none⟩ (.int .i64 ((k : Int) + 1))) (RInt rb s d (unitL 4 0 (s.toList.drop (k + 1))) ((w.drewN n).setCell ⟨rb, 1, none⟩ (.int .i64 ((k : Int) + 1))))) := fun n => rhex_any rb s (k + 1) d _ (H4.out n) hj1 hs
  have HPUT : Hid (∀ n w', Calls Try.prog 67 #[.int .i64 n] w' fun e w'' => e = .returned (.string (put n)) ∧ Below w'.heap.size w' w'') := fun n w' => rput_any n w'
  have hbd := unitL_bd 4 0 (s.toList.drop (k + 1))
  clear h H4
  cases hq : unitL 4 0 (s.toList.drop (k + 1)) with
  | none =>
    rw [hq] at HX
    have E1 : Hid (V = none) := by show _ = _; rw [hV, uL_none hq]
    have HX2 : Hid (∀ n, Calls Try.prog 66 #[.pointer (some ⟨rb, 0, none⟩)] ((w.drewN n).setCell ⟨rb, 1, none⟩ (.int .i64 ((k : Int) + 1))) (fun e w' => e = .returned (.int .i64 (-1)) ∧ RBad rb s d 3 ((w.drewN n).setCell ⟨rb, 1, none⟩ (.int .i64 ((k : Int) + 1))) w')) := HX.out
    clear hq HX hbd hV
    go_enter Try.func60, Try.ntmps60
    go_wp2_with fail
    go_quiet (fail)
    go_wp2_with fail
    go_quiet (fail)
    go_wp2_with fail
    refine (HX2.out _).mono ?_; rintro e w1 ⟨rfl, k1, hk1, h1, g1⟩
    have H1 := Lib.hid h1
    have G1 := Lib.hid ((G4.out _).trans g1)
    clear h1 g1
    go_wp2_with fail
    refine (HPUT.out _ _).mono ?_; rintro e w2 ⟨rfl, hw2⟩
    have H2 : Hid (RSt w2 rb s k1 d 3) := H1.out.below hw2 H1.out.lt
    have G2 := Lib.hid (G1.out.trans (grown_below hw2))
    clear hw2
    go_wp2_with fail
    go_ret
    exact RStr.no E1.out ⟨⟨_, put_size4 _, rfl⟩, k1, hk1, H2.out, G2.out⟩
  | some p =>
    obtain ⟨n, r⟩ := p
    rw [hq] at HX
    have hbn := hbd n r (by omega) hq
    have n0 : 0 ≤ n := hbn.1
    have n1 : n < 65536 := by have := hbn.2; simpa using this
    have HX2 : Hid (∀ m, Calls Try.prog 66 #[.pointer (some ⟨rb, 0, none⟩)] ((w.drewN m).setCell ⟨rb, 1, none⟩ (.int .i64 ((k : Int) + 1))) (fun e w' => e = .returned (.int .i64 n) ∧ RTo rb s d r ((w.drewN m).setCell ⟨rb, 1, none⟩ (.int .i64 ((k : Int) + 1))) w')) := HX.out
    have HV := Lib.hid (hV.trans (uL_some hq))
    clear hq HX hbd hV hbn
    by_cases a : n < 55296
    · have E1 : Hid (V = some (putB n, r)) := by show _ = _; rw [HV.out, if_pos (.inl a)]
      have t1 : decide (55296 ≤ n) = false := decide_eq_false (by omega)
      have t2 : decide (56320 ≤ n) = false := decide_eq_false (by omega)
      go_enter Try.func60, Try.ntmps60
      go_wp2_with fail
      go_quiet (fail)
      go_wp2_with fail
      go_quiet (fail)
      go_wp2_with fail
      refine (HX2.out _).mono ?_; rintro e w1 ⟨rfl, k1, hk1, hd1, h1, g1⟩
      have H1 := Lib.hid h1
      have G1 := Lib.hid ((G4.out _).trans g1)
      have D1 := Lib.hid hd1
      clear h1 g1 hd1 c0 c1 c2 c3 f1
      go_wp2_with fail
      refine (HPUT.out _ _).mono ?_; rintro e w8 ⟨rfl, hw8⟩
      have H8 := Lib.hid (H1.out.below hw8 H1.out.lt)
      have G8 := Lib.hid (G1.out.trans (grown_below hw8))
      clear hw8
      go_wp2_with fail
      go_ret
      exact RStr.yes E1.out ⟨by rw [put_arr]; rfl, k1, hk1, D1.out, H8.out, G8.out⟩
    by_cases b : 57343 < n
    · have E1 : Hid (V = some (putB n, r)) := by show _ = _; rw [HV.out, if_pos (.inr b)]
      have t1 : decide (55296 ≤ n) = true := decide_eq_true (by omega)
      have t1' : decide (n ≤ 56319) = false := decide_eq_false (by omega)
      have t2 : decide (56320 ≤ n) = true := decide_eq_true (by omega)
      have t2' : decide (n ≤ 57343) = false := decide_eq_false (by omega)
      go_enter Try.func60, Try.ntmps60
      go_wp2_with fail
      go_quiet (fail)
      go_wp2_with fail
      go_quiet (fail)
      go_wp2_with fail
      refine (HX2.out _).mono ?_; rintro e w1 ⟨rfl, k1, hk1, hd1, h1, g1⟩
      have H1 := Lib.hid h1
      have G1 := Lib.hid ((G4.out _).trans g1)
      have D1 := Lib.hid hd1
      clear h1 g1 hd1 c0 c1 c2 c3 f1
      go_wp2_with fail
      refine (HPUT.out _ _).mono ?_; rintro e w8 ⟨rfl, hw8⟩
      have H8 := Lib.hid (H1.out.below hw8 H1.out.lt)
      have G8 := Lib.hid (G1.out.trans (grown_below hw8))
      clear hw8
      go_wp2_with fail
      go_ret
      exact RStr.yes E1.out ⟨by rw [put_arr]; rfl, k1, hk1, D1.out, H8.out, G8.out⟩
    by_cases c : 56320 ≤ n
    · have E1 : Hid (V = none) := by show _ = _; rw [HV.out, if_neg (by omega), if_pos c]
      have t1 : decide (55296 ≤ n) = true := decide_eq_true (by omega)
      have t1' : decide (n ≤ 56319) = false := decide_eq_false (by omega)
      have t2 : decide (56320 ≤ n) = true := decide_eq_true (by omega)
      have t2' : decide (n ≤ 57343) = true := decide_eq_true (by omega)
      go_enter Try.func60, Try.ntmps60
      go_wp2_with fail
      go_quiet (fail)
      go_wp2_with fail
      go_quiet (fail)
      go_wp2_with fail
      refine (HX2.out _).mono ?_; rintro e w1 ⟨rfl, k1, hk1, hd1, h1, g1⟩
      have H1 := Lib.hid h1
      have G1 := Lib.hid ((G4.out _).trans g1)
      have D1 := Lib.hid hd1
      clear h1 g1 hd1 c0 c1 c2 c3 f1
      go_wp2_with fail
      refine (rfail_0 rb s k1 d 3 _ H1.out).mono ?_; rintro e w2 ⟨rfl, h2, g2⟩
      have H2 := Lib.hid h2
      have G2 := Lib.hid (G1.out.trans g2)
      clear h2 g2
      go_wp2_with fail
      refine (HPUT.out _ _).mono ?_; rintro e w8 ⟨rfl, hw8⟩
      have H8 := Lib.hid (H2.out.below hw8 H2.out.lt)
      have G8 := Lib.hid (G2.out.trans (grown_below hw8))
      clear hw8
      go_wp2_with fail
      go_ret
      exact RStr.no E1.out ⟨⟨_, put_size4 _, rfl⟩, k1, hk1, H8.out, G8.out⟩
    have t1 : decide (55296 ≤ n) = true := decide_eq_true (by omega)
    have t1' : decide (n ≤ 56319) = true := decide_eq_true (by omega)
    replace HV : Hid (V = if r.take 2 = [92, 117] then (match unitL 4 0 (r.drop 2) with | none => none | some (low, r2) => if low < 56320 ∨ 57343 < low then none else some (putB (65536 + (n % 1024) * 1024 + low % 1024), r2)) else none) := by show _ = _; rw [HV.out, if_neg (by omega), if_neg c]
    go_enter Try.func60, Try.ntmps60
    go_wp2_with fail
    go_quiet (fail)
    go_wp2_with fail
    go_quiet (fail)
    go_wp2_with fail
    refine (HX2.out _).mono ?_; rintro e w1 ⟨rfl, k1, hk1, hd1, h1, g1⟩
    have H1 := Lib.hid h1
    have G1 := Lib.hid ((G4.out _).trans g1)
    have D1 := Lib.hid hd1
    clear h1 g1 hd1 c0 c1 c2 c3 f1
    go_wp2_with fail
    by_cases p92 : k1 < s.size ∧ bt s k1 = 92
    case neg =>
      have E1 : Hid (V = none) := by show _ = _; rw [HV.out, if_neg (fun e => p92 (take2 (s := s) (k := k1) (by rw [D1.out]; exact e)).1)]
      have HS := Lib.hid (ris_no rb s k1 d 92 _ H1.out (fun hl => by rw [beq_eq_false_iff_ne]; exact fun e => p92 ⟨hl, e⟩))
      clear p92
      refine HS.out.mono ?_; rintro e w2 ⟨rfl, h2, g2⟩
      have H2 := Lib.hid h2
      have G2 := Lib.hid (G1.out.trans g2)
      clear h2 g2
      go_wp2_with fail
      refine (rfail_0 rb s k1 d 3 _ H2.out).mono ?_; rintro e w9 ⟨rfl, h9, g9⟩
      have H9 := Lib.hid h9
      have G9 := Lib.hid (G2.out.trans g9)
      clear h9 g9
      go_wp2_with fail
      go_ret
      exact RStr.no E1.out ⟨⟨⟨#[]⟩, by decide, rfl⟩, k1, hk1, H9.out, G9.out⟩
    have HS := Lib.hid (ris_yes rb s k1 d 92 _ H1.out p92.1 hs p92.2)
    have hk2 : k1 + 1 ≤ s.size := by omega
    have P92 := Lib.hid p92
    clear p92
    refine HS.out.mono ?_; rintro e w2 ⟨rfl, h2, g2⟩
    have H2 := Lib.hid h2
    have G2 := Lib.hid (G1.out.trans g2)
    clear h2 g2
    go_wp2_with fail
    by_cases p117 : k1 + 1 < s.size ∧ bt s (k1 + 1) = 117
    case neg =>
      have E1 : Hid (V = none) := by show _ = _; rw [HV.out, if_neg (fun e => p117 (take2 (s := s) (k := k1) (by rw [D1.out]; exact e)).2)]
      have HS2 := Lib.hid (ris_no rb s (k1 + 1) d 117 _ H2.out (fun hl => by rw [beq_eq_false_iff_ne]; exact fun e => p117 ⟨hl, e⟩))
      clear p117
      refine HS2.out.mono ?_; rintro e w3 ⟨rfl, h3, g3⟩
      have H3 := Lib.hid h3
      have G3 := Lib.hid (G2.out.trans g3)
      clear h3 g3
      go_wp2_with fail
      refine (rfail_0 rb s (k1 + 1) d 3 _ H3.out).mono ?_; rintro e w9 ⟨rfl, h9, g9⟩
      have H9 := Lib.hid h9
      have G9 := Lib.hid (G3.out.trans g9)
      clear h9 g9
      go_wp2_with fail
      go_ret
      exact RStr.no E1.out ⟨⟨⟨#[]⟩, by decide, rfl⟩, (k1 + 1), hk2, H9.out, G9.out⟩
    have HS2 := Lib.hid (ris_yes rb s (k1 + 1) d 117 _ H2.out p117.1 hs p117.2)
    have hk3 : k1 + 1 + 1 ≤ s.size := by omega
    have HT2 : Hid (r.take 2 = [92, 117]) := by show _ = _; rw [← D1.out]; exact take2_mk P92.out.1 P92.out.2 p117.1 p117.2
    have D3 : Hid (s.toList.drop (k1 + 1 + 1) = r.drop 2) := by show _ = _; rw [← D1.out, List.drop_drop]
    clear p117
    refine HS2.out.mono ?_; rintro e w3 ⟨rfl, h3, g3⟩
    have HX3 := Lib.hid (rhex_any rb s (k1 + 1 + 1) d _ h3 hk3 hs)
    rw [D3.out] at HX3
    have G3 := Lib.hid (G2.out.trans g3)
    clear h3 g3
    go_wp2_with fail
    have hbd := unitL_bd 4 0 (r.drop 2)
    cases hq : unitL 4 0 (r.drop 2) with
    | none =>
      rw [hq] at HX3
      have E1 : Hid (V = none) := by show _ = _; rw [HV.out, if_pos HT2.out, hq]
      have HX4 : Hid (Calls Try.prog 66 #[.pointer (some ⟨rb, 0, none⟩)] w3 (fun e w' => e = .returned (.int .i64 (-1)) ∧ RBad rb s d 3 w3 w')) := HX3.out
      clear hq HX3 hbd
      refine HX4.out.mono ?_; rintro e w4 ⟨rfl, k4, hk4, h4, g4⟩
      have H4 := Lib.hid h4
      have G4 := Lib.hid (G3.out.trans g4)
      clear h4 g4
      go_wp2_with fail
      refine (rfail_no rb s k4 d 3 3 rfl _ H4.out).mono ?_; rintro e w9 ⟨rfl, h9, g9⟩
      have H9 := Lib.hid h9
      have G9 := Lib.hid (G4.out.trans g9)
      clear h9 g9
      go_wp2_with fail
      go_ret
      exact RStr.no E1.out ⟨⟨⟨#[]⟩, by decide, rfl⟩, k4, hk4, H9.out, G9.out⟩
    | some p =>
      obtain ⟨m, r2⟩ := p
      rw [hq] at HX3
      have hbm := hbd m r2 (by omega) hq
      have m0 : 0 ≤ m := hbm.1
      have m1 : m < 65536 := by have := hbm.2; simpa using this
      have HX4 : Hid (Calls Try.prog 66 #[.pointer (some ⟨rb, 0, none⟩)] w3 (fun e w' => e = .returned (.int .i64 m) ∧ RTo rb s d r2 w3 w')) := HX3.out
      replace HV : Hid (V = if m < 56320 ∨ 57343 < m then none else some (putB (65536 + (n % 1024) * 1024 + m % 1024), r2)) := by show _ = _; rw [HV.out, if_pos HT2.out, hq]
      clear hq HX3 hbd hbm
      refine HX4.out.mono ?_; rintro e w4 ⟨rfl, k4, hk4, hd4, h4, g4⟩
      have H4 := Lib.hid h4
      have G4 := Lib.hid (G3.out.trans g4)
      have D4 := Lib.hid hd4
      clear h4 g4 hd4
      by_cases x : m < 56320
      · have E1 : Hid (V = none) := by show _ = _; rw [HV.out, if_pos (.inl x)]
        have x1 : decide (m < 56320) = true := decide_eq_true x
        go_wp2_with fail
        refine (rfail_0 rb s k4 d 3 _ H4.out).mono ?_; rintro e w9 ⟨rfl, h9, g9⟩
        have H9 := Lib.hid h9
        have G9 := Lib.hid (G4.out.trans g9)
        clear h9 g9
        go_wp2_with fail
        go_ret
        exact RStr.no E1.out ⟨⟨⟨#[]⟩, by decide, rfl⟩, k4, hk4, H9.out, G9.out⟩
      have x1 : decide (m < 56320) = false := decide_eq_false x
      by_cases y : 57343 < m
      · have E1 : Hid (V = none) := by show _ = _; rw [HV.out, if_pos (.inr y)]
        have x2 : decide (57343 < m) = true := decide_eq_true y
        go_wp2_with fail
        refine (rfail_0 rb s k4 d 3 _ H4.out).mono ?_; rintro e w9 ⟨rfl, h9, g9⟩
        have H9 := Lib.hid h9
        have G9 := Lib.hid (G4.out.trans g9)
        clear h9 g9
        go_wp2_with fail
        go_ret
        exact RStr.no E1.out ⟨⟨⟨#[]⟩, by decide, rfl⟩, k4, hk4, H9.out, G9.out⟩
      have x2 : decide (57343 < m) = false := decide_eq_false y
      have E1 : Hid (V = some (putB (65536 + (n % 1024) * 1024 + m % 1024), r2)) := by show _ = _; rw [HV.out, if_neg (by omega)]
      have y1 : IntKind.i64.wrap (n - 55296) = n - 55296 := IntWalk.i64_in _ (by omega)
      go_wp2_with fail
      refine (HPUT.out _ _).mono ?_; rintro e w8 ⟨rfl, hw8⟩
      have H8 := Lib.hid (H4.out.below hw8 H4.out.lt)
      have G8 := Lib.hid (G4.out.trans (grown_below hw8))
      clear hw8
      go_wp2_with fail
      go_ret
      exact RStr.yes E1.out ⟨by rw [show (65536 + (n % 1024) * 1024 + m % 1024 : Int) = 65536 + (n - 55296) * 1024 + m - 56320 by omega, put_arr]; rfl, k4, hk4, D4.out, H8.out, G8.out⟩
set_option maxRecDepth 100000 in
set_option maxHeartbeats 4000000 in
theorem rescape_any (rb : Nat) (s : ByteArray) (k d : Nat) (w : World) (h : RSt w rb s k d 0) (hk : k ≤ s.size) (hs : s.size ≤ 1000000)
    (HU : ∀ w', k < s.size → bt s k = 117 → Hid (∀ n, RSt ((w'.drewN n).setCell ⟨rb, 1, none⟩ (.int .i64 ((k : Int) + 1))) rb s (k + 1) d 0) → w' = w → Calls Try.prog 60 #[.pointer (some ⟨rb, 0, none⟩)] w (RStr rb s d (uL (s.toList.drop (k + 1))) w)) :
    Calls Try.prog 60 #[.pointer (some ⟨rb, 0, none⟩)] w (RStr rb s d (escL (s.toList.drop k)) w) := by
  obtain ⟨V, hV⟩ : ∃ V, V = escL (s.toList.drop k) := ⟨_, rfl⟩
  rw [← hV]
  have hb := get_bt s
  have H0 := Lib.hid h
  obtain ⟨c0, c1, c2, c3⟩ := h.cells4
  have f1 := h.frozen 1
  have i0 : (0 : Int) ≤ (k : Int) := by omega
  by_cases hlt : k < s.size
  case neg =>
    have i1 : ¬ (k : Int) < (s.size : Int) := by omega
    have i2 : decide ((s.size : Int) ≤ (k : Int)) = true := decide_eq_true (by omega)
    have E1 : Hid (V = none) := by show _ = _; rw [hV, drop_end s k (by omega)]; rfl
    have H5 : Hid (∀ n, RSt (w.drewN n) rb s k d 0) := fun n => h
    clear h hV HU
    go_enter Try.func60, Try.ntmps60
    go_wp2_with fail
    go_quiet (fail)
    go_wp2_with fail
    refine (rfail_0 rb s k d 3 _ (H5.out _)).mono ?_; rintro e w9 ⟨rfl, h9, g9⟩
    have H9 := Lib.hid h9
    have G9 := Lib.hid ((grown_drewN (grown_refl _ _) _).trans g9)
    clear h9 g9
    go_wp2_with fail
    go_ret
    exact RStr.no E1.out ⟨⟨⟨#[]⟩, by decide, rfl⟩, k, hk, H9.out, G9.out⟩
  obtain ⟨u, hu, hd⟩ := drop_cons s k hlt
  have i1 : (k : Int) < (s.size : Int) := by omega
  have i2 : decide ((s.size : Int) ≤ (k : Int)) = false := decide_eq_false (by omega)
  have b0 := bt_nonneg s k
  have b1 := bt_le s k
  have hj1 : k + 1 ≤ s.size := by omega
  rw [hd] at hV
  have HV := Lib.hid hV
  have HUU := Lib.hid hu
  have HEQ : Hid (∀ (x : UInt8) (n : Int), (x.toNat : Int) = n → bt s k = n → u = x) := fun x n h1 h2 => UInt8.toNat_inj.1 (by omega)
  have HNE : Hid (∀ (x : UInt8) (n : Int), (x.toNat : Int) = n → ¬ bt s k = n → ¬ u = x) := fun x n h1 h2 h3 => h2 (by rw [hu, h3]; exact h1)
  have H4 : Hid (∀ n, RSt ((w.drewN n).setCell ⟨rb, 1, none⟩ (.int .i64 ((k : Int) + 1))) rb s (k + 1) d 0) := fun n => by
    have := (show Blk (w.drewN n) rb 60 #[.string s, .int .i64 k, .int .i64 d, .int .i64 0] from H0.out).set_ 1 (.int .i64 ((k + 1 : Nat) : Int))
    exact this
  have G4 : Hid (∀ n, w.grownBy ((w.drewN n).setCell ⟨rb, 1, none⟩ (.int .i64 ((k : Int) + 1))) (some rb)) := fun n => grown_set (grown_drewN (grown_refl _ _) _) 1 _
  have HU2 := HU w hlt
  clear hV hu hd h HU
  by_cases q34 : bt s k = 34
  · have E1 : Hid (V = some ([34], s.toList.drop (k + 1))) := by show _ = _; rw [HV.out]; unfold escL; simp only; rw [if_pos (.inl (HEQ.out 34 34 rfl q34)), HEQ.out 34 34 rfl q34]
    have hcv : ∀ n, (convert 22 9 (.slice (some ⟨w.heap.size, 0, none⟩) 1 1)).run Try.prog (((w.drewN n).setCell ⟨rb, 1, none⟩ (.int .i64 ((k : Int) + 1))).alloc (.cells #[.int .u8 34] 5)) = .ok (.string (strOfNums [34])) (((w.drewN n).setCell ⟨rb, 1, none⟩ (.int .i64 ((k : Int) + 1))).alloc (.cells #[.int .u8 34] 5)) := fun n => by
      have hc := conv1 (P := Try.prog) 22 9 5 Try.underlying22 Try.underlying5 Try.underlying9 ((w.drewN n).setCell ⟨rb, 1, none⟩ (.int .i64 ((k : Int) + 1))) 34 1
      rw [show ((w.drewN n).setCell ⟨rb, 1, none⟩ (.int .i64 ((k : Int) + 1))).heap.size = w.heap.size by simp] at hc
      exact hc
    clear HU2
    go_enter Try.func60, Try.ntmps60
    go_wp2_with fail
    go_quiet (fail)
    go_wp2_with fail
    go_quiet (fail)
    go_wp2_with fail
    go_ret
    refine RStr.yes E1.out ⟨rfl, k + 1, hj1, rfl, ?_, ?_⟩
    · exact Blk.alloc (H4.out _) _
    · exact grown_alloc (G4.out _) _
  have n34 : (bt s k == 34) = false := by rw [beq_eq_false_iff_ne]; exact q34
  by_cases q92 : bt s k = 92
  · have E1 : Hid (V = some ([92], s.toList.drop (k + 1))) := by show _ = _; rw [HV.out]; unfold escL; simp only; rw [if_pos (.inr (.inl (HEQ.out 92 92 rfl q92))), HEQ.out 92 92 rfl q92]
    have hcv : ∀ n, (convert 22 9 (.slice (some ⟨w.heap.size, 0, none⟩) 1 1)).run Try.prog (((w.drewN n).setCell ⟨rb, 1, none⟩ (.int .i64 ((k : Int) + 1))).alloc (.cells #[.int .u8 92] 5)) = .ok (.string (strOfNums [92])) (((w.drewN n).setCell ⟨rb, 1, none⟩ (.int .i64 ((k : Int) + 1))).alloc (.cells #[.int .u8 92] 5)) := fun n => by
      have hc := conv1 (P := Try.prog) 22 9 5 Try.underlying22 Try.underlying5 Try.underlying9 ((w.drewN n).setCell ⟨rb, 1, none⟩ (.int .i64 ((k : Int) + 1))) 92 1
      rw [show ((w.drewN n).setCell ⟨rb, 1, none⟩ (.int .i64 ((k : Int) + 1))).heap.size = w.heap.size by simp] at hc
      exact hc
    clear HU2
    go_enter Try.func60, Try.ntmps60
    go_wp2_with fail
    go_quiet (fail)
    go_wp2_with fail
    go_quiet (fail)
    go_wp2_with fail
    go_ret
    refine RStr.yes E1.out ⟨rfl, k + 1, hj1, rfl, ?_, ?_⟩
    · exact Blk.alloc (H4.out _) _
    · exact grown_alloc (G4.out _) _
  have n92 : (bt s k == 92) = false := by rw [beq_eq_false_iff_ne]; exact q92
  by_cases q47 : bt s k = 47
  · have E1 : Hid (V = some ([47], s.toList.drop (k + 1))) := by show _ = _; rw [HV.out]; unfold escL; simp only; rw [if_pos (.inr (.inr (HEQ.out 47 47 rfl q47))), HEQ.out 47 47 rfl q47]
    have hcv : ∀ n, (convert 22 9 (.slice (some ⟨w.heap.size, 0, none⟩) 1 1)).run Try.prog (((w.drewN n).setCell ⟨rb, 1, none⟩ (.int .i64 ((k : Int) + 1))).alloc (.cells #[.int .u8 47] 5)) = .ok (.string (strOfNums [47])) (((w.drewN n).setCell ⟨rb, 1, none⟩ (.int .i64 ((k : Int) + 1))).alloc (.cells #[.int .u8 47] 5)) := fun n => by
      have hc := conv1 (P := Try.prog) 22 9 5 Try.underlying22 Try.underlying5 Try.underlying9 ((w.drewN n).setCell ⟨rb, 1, none⟩ (.int .i64 ((k : Int) + 1))) 47 1
      rw [show ((w.drewN n).setCell ⟨rb, 1, none⟩ (.int .i64 ((k : Int) + 1))).heap.size = w.heap.size by simp] at hc
      exact hc
    clear HU2
    go_enter Try.func60, Try.ntmps60
    go_wp2_with fail
    go_quiet (fail)
    go_wp2_with fail
    go_quiet (fail)
    go_wp2_with fail
    go_ret
    refine RStr.yes E1.out ⟨rfl, k + 1, hj1, rfl, ?_, ?_⟩
    · exact Blk.alloc (H4.out _) _
    · exact grown_alloc (G4.out _) _
  have n47 : (bt s k == 47) = false := by rw [beq_eq_false_iff_ne]; exact q47
  have HQ3 : Hid (¬ (u = 34 ∨ u = 92 ∨ u = 47)) := by rintro (h | h | h); exact HNE.out 34 34 rfl q34 h; exact HNE.out 92 92 rfl q92 h; exact HNE.out 47 47 rfl q47 h
  clear q34 q92 q47
  by_cases q98 : bt s k = 98
  · have E1 : Hid (V = some ([8], s.toList.drop (k + 1))) := by show _ = _; rw [HV.out]; unfold escL; simp only; rw [if_neg HQ3.out, if_pos (HEQ.out 98 98 rfl q98)]
    clear HU2
    go_enter Try.func60, Try.ntmps60
    go_wp2_with fail
    go_quiet (fail)
    go_wp2_with fail
    go_quiet (fail)
    go_wp2_with fail
    go_ret
    exact RStr.yes E1.out ⟨rfl, k + 1, hj1, rfl, H4.out _, G4.out _⟩
  have n98 : (bt s k == 98) = false := by rw [beq_eq_false_iff_ne]; exact q98
  have Q98 := Lib.hid (HNE.out 98 98 rfl q98)
  clear q98
  by_cases q102 : bt s k = 102
  · have E1 : Hid (V = some ([12], s.toList.drop (k + 1))) := by show _ = _; rw [HV.out]; unfold escL; simp only; rw [if_neg HQ3.out, if_neg Q98.out, if_pos (HEQ.out 102 102 rfl q102)]
    clear HU2
    go_enter Try.func60, Try.ntmps60
    go_wp2_with fail
    go_quiet (fail)
    go_wp2_with fail
    go_quiet (fail)
    go_wp2_with fail
    go_ret
    exact RStr.yes E1.out ⟨rfl, k + 1, hj1, rfl, H4.out _, G4.out _⟩
  have n102 : (bt s k == 102) = false := by rw [beq_eq_false_iff_ne]; exact q102
  have Q102 := Lib.hid (HNE.out 102 102 rfl q102)
  clear q102
  by_cases q110 : bt s k = 110
  · have E1 : Hid (V = some ([10], s.toList.drop (k + 1))) := by show _ = _; rw [HV.out]; unfold escL; simp only; rw [if_neg HQ3.out, if_neg Q98.out, if_neg Q102.out, if_pos (HEQ.out 110 110 rfl q110)]
    clear HU2
    go_enter Try.func60, Try.ntmps60
    go_wp2_with fail
    go_quiet (fail)
    go_wp2_with fail
    go_quiet (fail)
    go_wp2_with fail
    go_ret
    exact RStr.yes E1.out ⟨rfl, k + 1, hj1, rfl, H4.out _, G4.out _⟩
  have n110 : (bt s k == 110) = false := by rw [beq_eq_false_iff_ne]; exact q110
  have Q110 := Lib.hid (HNE.out 110 110 rfl q110)
  clear q110
  by_cases q114 : bt s k = 114
  · have E1 : Hid (V = some ([13], s.toList.drop (k + 1))) := by show _ = _; rw [HV.out]; unfold escL; simp only; rw [if_neg HQ3.out, if_neg Q98.out, if_neg Q102.out, if_neg Q110.out, if_pos (HEQ.out 114 114 rfl q114)]
    clear HU2
    go_enter Try.func60, Try.ntmps60
    go_wp2_with fail
    go_quiet (fail)
    go_wp2_with fail
    go_quiet (fail)
    go_wp2_with fail
    go_ret
    exact RStr.yes E1.out ⟨rfl, k + 1, hj1, rfl, H4.out _, G4.out _⟩
  have n114 : (bt s k == 114) = false := by rw [beq_eq_false_iff_ne]; exact q114
  have Q114 := Lib.hid (HNE.out 114 114 rfl q114)
  clear q114
  by_cases q116 : bt s k = 116
  · have E1 : Hid (V = some ([9], s.toList.drop (k + 1))) := by show _ = _; rw [HV.out]; unfold escL; simp only; rw [if_neg HQ3.out, if_neg Q98.out, if_neg Q102.out, if_neg Q110.out, if_neg Q114.out, if_pos (HEQ.out 116 116 rfl q116)]
    clear HU2
    go_enter Try.func60, Try.ntmps60
    go_wp2_with fail
    go_quiet (fail)
    go_wp2_with fail
    go_quiet (fail)
    go_wp2_with fail
    go_ret
    exact RStr.yes E1.out ⟨rfl, k + 1, hj1, rfl, H4.out _, G4.out _⟩
  have n116 : (bt s k == 116) = false := by rw [beq_eq_false_iff_ne]; exact q116
  have Q116 := Lib.hid (HNE.out 116 116 rfl q116)
  clear q116
  by_cases q117 : bt s k = 117
  · have E1 : V = uL (s.toList.drop (k + 1)) := by rw [HV.out]; unfold escL; simp only; rw [if_neg HQ3.out, if_neg Q98.out, if_neg Q102.out, if_neg Q110.out, if_neg Q114.out, if_neg Q116.out, if_pos (HEQ.out 117 117 rfl q117)]; rfl
    rw [E1]
    exact HU2 q117 H4 rfl
  have n117 : (bt s k == 117) = false := by rw [beq_eq_false_iff_ne]; exact q117
  have E1 : Hid (V = none) := by show _ = _; rw [HV.out]; unfold escL; simp only; rw [if_neg HQ3.out, if_neg Q98.out, if_neg Q102.out, if_neg Q110.out, if_neg Q114.out, if_neg Q116.out, if_neg (HNE.out 117 117 rfl q117)]
  clear q117 HU2
  go_enter Try.func60, Try.ntmps60
  go_wp2_with fail
  go_quiet (fail)
  go_wp2_with fail
  go_quiet (fail)
  go_wp2_with fail
  refine (rfail_0 rb s (k + 1) d 3 _ (H4.out _)).mono ?_; rintro e w9 ⟨rfl, h9, g9⟩
  have H9 := Lib.hid h9
  have G9 := Lib.hid ((G4.out _).trans g9)
  clear h9 g9
  go_wp2_with fail
  go_ret
  exact RStr.no E1.out ⟨⟨⟨#[]⟩, by decide, rfl⟩, k + 1, hj1, H9.out, G9.out⟩
end Go.Proofs.Ytnhoecmcbikcnaa
/-! The reference's reader: a text behind its opening sign. -/
namespace Go.Proofs.Ytnhoecmcbikcnaa
open Go.RowKit Go.PlainAid
set_option linter.unusedVariables false
set_option linter.unusedSimpArgs false
theorem rescape_all (rb : Nat) (s : ByteArray) (k d : Nat) (w : World) (h : RSt w rb s k d 0) (hk : k ≤ s.size) (hs : s.size ≤ 1000000) :
    Calls Try.prog 60 #[.pointer (some ⟨rb, 0, none⟩)] w (RStr rb s d (escL (s.toList.drop k)) w) :=
  rescape_any rb s k d w h hk hs (fun w' hlt q H4 e => by subst e; exact rescape_u rb s k d _ h hk hs hlt q H4)
/-- a text, or an error and no text -/
def RTxt (rb : Nat) (s : ByteArray) (d : Nat) (r : Option (List UInt8 × List UInt8)) (w : World) (e : Ending) (w' : World) : Prop :=
  match r with
  | none => e = .returned (.string ⟨#[]⟩) ∧ RBad rb s d 3 w w'
  | some (b, l) => e = .returned (.string ⟨b.toArray⟩) ∧ RTo rb s d l w w'
theorem RTxt.no {rb : Nat} {s : ByteArray} {d : Nat} {r : Option (List UInt8 × List UInt8)} {w : World} {e : Ending} {w' : World} (hr : r = none) (h : e = .returned (.string ⟨#[]⟩) ∧ RBad rb s d 3 w w') : RTxt rb s d r w e w' := by subst hr; exact h
theorem RTxt.yes {rb : Nat} {s : ByteArray} {d : Nat} {r : Option (List UInt8 × List UInt8)} {b l : List UInt8} {w : World} {e : Ending} {w' : World} (hr : r = some (b, l)) (h : e = .returned (.string ⟨b.toArray⟩) ∧ RTo rb s d l w w') : RTxt rb s d r w e w' := by subst hr; exact h
def TxtI (s : ByteArray) (V : Option (List UInt8 × List UInt8)) (j : Nat) (acc : List UInt8) (er : Int) (g : Nat) : Prop := er = 0 ∧ V = textT (s.toList.drop j) acc ∧ s.size - j + 1 ≤ g ∧ acc.length ≤ 4 * j ∨ er = 3 ∧ V = none
set_option maxRecDepth 100000 in
set_option maxHeartbeats 4000000 in
theorem rtext_any (rb : Nat) (s : ByteArray) (k d : Nat) (w : World) (h : RSt w rb s k d 0) (hk : k ≤ s.size) (hs : s.size ≤ 1000000) :
    Calls Try.prog 48 #[.pointer (some ⟨rb, 0, none⟩)] w (RTxt rb s d (textT (s.toList.drop k) []) w) := by
  obtain ⟨V, hV⟩ : ∃ V, V = textT (s.toList.drop k) [] := ⟨_, rfl⟩
  rw [← hV]
  have hb := get_bt s
  have hrb : rb < w.heap.size := h.lt
  have I0 : Hid (TxtI s V k [] 0 (s.size - k + 1)) := .inl ⟨rfl, hV, by omega, by simp⟩
  have H1 := Lib.hid h
  have O1 : Hid (OwnU w w.heap.size (.slice none 0 0) []) := OwnU.nil _ _
  have G1 : Hid (w.grownBy w (some rb)) := grown_refl _ _
  clear h hV
  go_enter Try.func48, Try.ntmps48
  go_wp2_with fail
  go_loopg [3] (s.size - k + 1) (fun g tv wr => ∃ (j : Nat) (acc : List UInt8) (A : Option Addr) (c : Nat) (er : Int), j ≤ s.size ∧ tv = .slice A acc.length c ∧ Hid (OwnU wr w.heap.size (.slice A acc.length c) acc) ∧ Hid (TxtI s V j acc er g) ∧ Hid (RSt wr rb s j d er) ∧ Hid (w.grownBy wr (some rb)))
  case atStart => exact ⟨k, [], none, 0, 0, hk, rfl, O1, I0, H1, G1⟩
  case round =>
    clear H1 G1 O1 I0
    obtain ⟨j, acc, A, c, er, hj, rfl, ho, hI, h0, hw⟩ := hrel
    obtain ⟨wo, rfl⟩ : ∃ wo : World, wo = wr := ⟨_, rfl⟩
    obtain ⟨c0, c1, c2, c3⟩ := h0.out.cells4
    have f1 := h0.out.frozen 1
    have i0 : (0 : Int) ≤ (j : Int) := by omega
    rcases hI.out with ⟨rfl, hv, hg, hac⟩ | ⟨rfl, hv⟩
    case inr =>
      have E1 : Hid (V = none) := hv
      clear hv hI
      go_wp2_with fail
      go_ret
      exact RTxt.no E1.out ⟨rfl, j, hj, h0.out, hw.out⟩
    have HV := Lib.hid hv
    have hg0 : 0 < gk := by omega
    clear hv hI
    by_cases hlt : j < s.size
    case neg =>
      have i2 : decide ((s.size : Int) ≤ (j : Int)) = true := decide_eq_true (by omega)
      have E1 : Hid (V = none) := by show _ = _; rw [HV.out, drop_end s j (by omega), textT_nil]
      have H5 : Hid (∀ n, RSt (wo.drewN n) rb s j d 0) := fun n => h0.out
      have G5 : Hid (∀ n, w.grownBy (wo.drewN n) (some rb)) := fun n => grown_drewN hw.out n
      go_wp2_with fail
      go_quiet (fail)
      go_wp2_with fail
      refine (rfail_0 rb s j d 3 _ (H5.out _)).mono ?_; rintro e w9 ⟨rfl, h9, g9⟩
      have H9 := Lib.hid h9
      have G9 := Lib.hid ((G5.out _).trans g9)
      clear h9 g9
      go_wp2_with fail
      go_ret
      exact RTxt.no E1.out ⟨rfl, j, hj, H9.out, G9.out⟩
    obtain ⟨u, hu, hd⟩ := drop_cons s j hlt
    have i1 : (j : Int) < (s.size : Int) := by omega
    have i2 : decide ((s.size : Int) ≤ (j : Int)) = false := decide_eq_false (by omega)
    have b0 := bt_nonneg s j
    have b1 := bt_le s j
    have hj1 : j + 1 ≤ s.size := by omega
    have H5 : Hid (∀ n, RSt (wo.drewN n) rb s j d 0) := fun n => h0.out
    have G5 : Hid (∀ n, w.grownBy (wo.drewN n) (some rb)) := fun n => grown_drewN hw.out n
    have O5 : Hid (∀ n, OwnU (wo.drewN n) w.heap.size (.slice A acc.length c) acc) := fun n => ho.out
    have H6 : Hid (∀ n, RSt ((wo.drewN n).setCell ⟨rb, 1, none⟩ (.int .i64 ((j : Int) + 1))) rb s (j + 1) d 0) := fun n => by
      have := (show Blk (wo.drewN n) rb 60 #[.string s, .int .i64 j, .int .i64 d, .int .i64 0] from h0.out).set_ 1 (.int .i64 ((j + 1 : Nat) : Int))
      exact this
    have G6 : Hid (∀ n, w.grownBy ((wo.drewN n).setCell ⟨rb, 1, none⟩ (.int .i64 ((j : Int) + 1))) (some rb)) := fun n => grown_set (grown_drewN hw.out _) 1 _
    have O6 : Hid (∀ n, OwnU ((wo.drewN n).setCell ⟨rb, 1, none⟩ (.int .i64 ((j : Int) + 1))) w.heap.size (.slice A acc.length c) acc) := fun n => (O5.out n).keepR (grown_set (grown_refl _ _) 1 _) hrb
    have hst := textT_cons u (s.toList.drop (j + 1)) acc
    rw [← hd, ← HV.out] at hst
    have HST := Lib.hid hst
    have HU := Lib.hid hu
    have HD := Lib.hid hd
    clear hu hd hst
    by_cases q34 : bt s j = 34
    · have q34' : u = 34 := UInt8.toNat_inj.1 (by have := HU.out; have e : ((34 : UInt8).toNat) = 34 := rfl; omega)
      have E1 : Hid (V = some (acc, s.toList.drop (j + 1))) := by show _ = _; rw [HST.out, if_neg (by rw [q34']; decide), if_pos q34']
      have hcv : ∀ n, (convert 22 9 (.slice A acc.length c)).run Try.prog ((wo.drewN n).setCell ⟨rb, 1, none⟩ (.int .i64 ((j : Int) + 1))) = .ok (.string ⟨acc.toArray⟩) ((wo.drewN n).setCell ⟨rb, 1, none⟩ (.int .i64 ((j : Int) + 1))) := fun n => (O6.out n).conv
      clear q34'
      go_wp2_with fail
      go_quiet (fail)
      go_wp2_with fail
      go_quiet (fail)
      go_wp2_with fail
      go_ret
      exact RTxt.yes E1.out ⟨rfl, j + 1, hj1, rfl, H6.out _, G6.out _⟩
    have n34 : (bt s j == 34) = false := by rw [beq_eq_false_iff_ne]; exact q34
    have HN34 : Hid (¬ u = 34) := fun e => q34 (by rw [HU.out, e]; rfl)
    by_cases q92 : bt s j = 92
    · have q92' : u = 92 := UInt8.toNat_inj.1 (by have := HU.out; have e : ((92 : UInt8).toNat) = 92 := rfl; omega)
      have HST2 : Hid (V = match escL (s.toList.drop (j + 1)) with
        | none => none
        | some (b, r2) => textT r2 (acc ++ b)) := by show _ = _; rw [HST.out, if_neg (by rw [q92']; decide), if_neg HN34.out, if_pos q92']; rfl
      have HES : Hid (∀ n, Calls Try.prog 60 #[.pointer (some ⟨rb, 0, none⟩)] ((wo.drewN n).setCell ⟨rb, 1, none⟩ (.int .i64 ((j : Int) + 1))) (RStr rb s d (escL (s.toList.drop (j + 1))) ((wo.drewN n).setCell ⟨rb, 1, none⟩ (.int .i64 ((j : Int) + 1))))) := fun n => rescape_all rb s (j + 1) d _ (H6.out n) hj1 hs
      clear q92' HST
      go_wp2_with fail
      go_quiet (fail)
      go_wp2_with fail
      go_quiet (fail)
      go_wp2_with fail
      cases hq : escL (s.toList.drop (j + 1)) with
      | none =>
        rw [hq] at HES HST2
        have E1 : Hid (V = none) := HST2.out
        have HES2 : Hid (∀ n, Calls Try.prog 60 #[.pointer (some ⟨rb, 0, none⟩)] ((wo.drewN n).setCell ⟨rb, 1, none⟩ (.int .i64 ((j : Int) + 1))) (fun e w' => (∃ t : ByteArray, t.size ≤ 4 ∧ e = .returned (.string t)) ∧ RBad rb s d 3 ((wo.drewN n).setCell ⟨rb, 1, none⟩ (.int .i64 ((j : Int) + 1))) w')) := HES.out
        clear HES hq HST2
        refine (HES2.out _).mono ?_; rintro e w4 ⟨⟨t, ht, rfl⟩, k4, hk4, h4, g4⟩
        have H4 := Lib.hid h4
        have G4 := Lib.hid ((G6.out _).trans g4)
        have O4 := Lib.hid ((O6.out _).keepR g4 hrb)
        have z4 : w.heap.size ≤ w4.heap.size := G4.out.size
        have htl : Hid (t.toList.length ≤ 4) := by show _ ≤ _; rw [toList_len]; exact ht
        have hlim : Hid (acc.length + t.toList.length ≤ 120000000000000) := by show _ ≤ _; have := htl.out; omega
        clear h4 g4
        go_wp2_with (at_builtin; refine wpList_pushS _ rfl _ _ rfl w.heap.size _ acc rfl O4.out _ rfl t.toList rfl hlim.out z4 ?_; intro v5 w5 n5 k5; obtain ⟨A5, c5, rfl⟩ := n5.form'; have N5 := Lib.hid n5; have K5 := Lib.hid k5; clear n5 k5)
        have H5' : Hid (RSt w5 rb s k4 d 3) := H4.out.below K5.out.1 hrb
        have G5' : Hid (w.grownBy w5 (some rb)) := KU.grown (B := 0) G4.out K5.out
        go_roundg (gk - 1)
        case measure => omega
        case rel => exact ⟨k4, acc ++ t.toList, A5, c5, 3, hk4, (by first | rfl | (simp; done)), N5, .inr ⟨rfl, E1.out⟩, H5', G5'⟩
      | some p =>
        obtain ⟨b, r⟩ := p
        rw [hq] at HES HST2
        have E1 : Hid (V = textT r (acc ++ b)) := HST2.out
        have HES2 : Hid (∀ n, Calls Try.prog 60 #[.pointer (some ⟨rb, 0, none⟩)] ((wo.drewN n).setCell ⟨rb, 1, none⟩ (.int .i64 ((j : Int) + 1))) (fun e w' => e = .returned (.string ⟨b.toArray⟩) ∧ RTo rb s d r ((wo.drewN n).setCell ⟨rb, 1, none⟩ (.int .i64 ((j : Int) + 1))) w')) := HES.out
        have hbl := escL_len hq
        have hrl := (escL_le hq).2
        rw [len_drop] at hrl
        have hbt : Hid ((⟨b.toArray⟩ : ByteArray).toList = b) := by show _ = _; rw [ByteArray.toList_eq]
        clear HES hq HST2
        refine (HES2.out _).mono ?_; rintro e w4 ⟨rfl, k4, hk4, hd4, h4, g4⟩
        have hk4r : r.length = s.size - k4 := by rw [← hd4, len_drop]
        have hac2 : (acc ++ b).length ≤ 4 * k4 := by rw [List.length_append]; omega
        have hg4 : s.size - k4 + 1 ≤ gk - 1 := by omega
        have HAC2 := Lib.hid hac2
        have H4 := Lib.hid h4
        have G4 := Lib.hid ((G6.out _).trans g4)
        have O4 := Lib.hid ((O6.out _).keepR g4 hrb)
        have E4 : Hid (V = textT (s.toList.drop k4) (acc ++ b)) := by show _ = _; rw [E1.out, hd4]
        have z4 : w.heap.size ≤ w4.heap.size := G4.out.size
        clear h4 g4 hd4 hac2 hk4r
        go_wp2_with (at_builtin; refine wpList_pushS _ rfl _ _ rfl w.heap.size _ acc rfl O4.out _ rfl b hbt.out (by omega) z4 ?_; intro v5 w5 n5 k5; obtain ⟨A5, c5, rfl⟩ := n5.form'; have N5 := Lib.hid n5; have K5 := Lib.hid k5; clear n5 k5)
        have H5' : Hid (RSt w5 rb s k4 d 0) := H4.out.below K5.out.1 hrb
        have G5' : Hid (w.grownBy w5 (some rb)) := KU.grown (B := 0) G4.out K5.out
        go_roundg (gk - 1)
        case measure => omega
        case rel => exact ⟨k4, acc ++ b, A5, c5, 0, hk4, (by first | rfl | (simp; done)), N5, .inl ⟨rfl, E4.out, hg4, HAC2.out⟩, H5', G5'⟩
    have n92 : (bt s j == 92) = false := by rw [beq_eq_false_iff_ne]; exact q92
    have HN92 : Hid (¬ u = 92) := fun e => q92 (by rw [HU.out, e]; rfl)
    by_cases q32 : bt s j < 32
    · have E1 : Hid (V = none) := by show _ = _; rw [HST.out, if_pos (by rw [UInt8.lt_iff_toNat_lt]; have := HU.out; have e : ((32 : UInt8).toNat) = 32 := rfl; omega)]
      have d32 : decide (bt s j < 32) = true := decide_eq_true q32
      clear HST q32 q34 q92
      go_wp2_with fail
      go_quiet (fail)
      go_wp2_with fail
      go_quiet (fail)
      go_wp2_with fail
      refine (rfail_0 rb s j d 3 _ (H5.out _)).mono ?_; rintro e w9 ⟨rfl, h9, g9⟩
      have H9 := Lib.hid h9
      have G9 := Lib.hid ((G5.out _).trans g9)
      have O9 := Lib.hid ((O5.out _).keepR g9 hrb)
      clear h9 g9
      go_wp2_with fail
      go_roundg (gk - 1)
      case measure => omega
      case rel => exact ⟨j, acc, A, c, 3, hj, rfl, O9, .inr ⟨rfl, E1.out⟩, H9, G9⟩
    have d32 : decide (bt s j < 32) = false := decide_eq_false q32
    have HN32 : Hid (¬ u < 32) := by show ¬ _; rw [UInt8.lt_iff_toNat_lt]; have := HU.out; have e : ((32 : UInt8).toNat) = 32 := rfl; omega
    have HST2 : Hid (V = match decL (s.toList.drop j) with
      | none => none
      | some (_, m) => textT ((s.toList.drop j).drop m) (acc ++ (s.toList.drop j).take m)) := by show _ = _; rw [HST.out, if_neg HN32.out, if_neg HN34.out, if_neg HN92.out, HD.out]; rfl
    have HGT : Hid (∀ w', Calls Try.prog 61 #[.string s, .int .i64 j] w' (GetEnd (getL s.toList j) w')) := rget_fn s j (by omega) hlt
    clear HST q32 q34 q92
    go_wp2_with fail
    go_quiet (fail)
    generalize nq = n1 at *
    go_wp2_with fail
    go_quiet (fail)
    go_wp2_with fail
    have H3 := Lib.hid (H5.out (n1 + nq))
    have G3 := Lib.hid (G5.out (n1 + nq))
    have O3 := Lib.hid (O5.out (n1 + nq))
    clear c0 c1 c2 c3 f1 H5 G5 O5 H6 G6 O6 h0 hw ho
    generalize wo.drewN (n1 + nq) = w3 at *
    obtain ⟨c0, c1, c2, c3⟩ := H3.out.cells4
    cases hq : decL (s.toList.drop j) with
    | none =>
      have hgl : getL s.toList j = (-1, (j : Int)) := by unfold getL; rw [hq]
      rw [hgl] at HGT
      rw [hq] at HST2
      have E1 : Hid (V = none) := HST2.out
      clear hq HST2 hgl
      go_region_held3 (fun w' => w'.cell? ⟨rb, 0, none⟩ = some (.string s) ∧ w'.cell? ⟨rb, 1, none⟩ = some (.int .i64 j)) (first | exact ⟨c0, c1⟩ | exact ⟨d0, d1⟩) ((go_at_call 61; refine (HGT.out _).mono ?_; rintro e w4 ⟨rfl, hw4⟩; have H4 : Hid (RSt w4 rb s j d 0) := (show RSt w3.drew rb s j d 0 from H3.out).below hw4 (show RSt w3.drew rb s j d 0 from H3.out).lt; have G4 : Hid (w.grownBy w4 (some rb)) := (grown_drew G3.out).trans (grown_below hw4); have O4 : Hid (OwnU w4 w.heap.size (.slice A acc.length c) acc) := (show OwnU w3.drew w.heap.size (.slice A acc.length c) acc from O3.out).old hw4; obtain ⟨d0, d1, d2, d3⟩ := H4.out.cells4; clear hw4))
      all_goals
        go_wp2_with fail
        refine (rfail_0 rb s j d 3 _ H4.out).mono ?_; rintro e w9 ⟨rfl, h9, g9⟩
        have H9 := Lib.hid h9
        have G9 := Lib.hid (G4.out.trans g9)
        have O9 := Lib.hid (O4.out.keepR g9 hrb)
        clear h9 g9
        go_wp2_with fail
        go_roundg (gk - 1)
        case measure => omega
        case rel => exact ⟨j, acc, A, c, 3, hj, rfl, O9, .inr ⟨rfl, E1.out⟩, H9, G9⟩
    | some p =>
      obtain ⟨r, m⟩ := p
      have hgl : getL s.toList j = (r, (j : Int) + (m : Int)) := by unfold getL; rw [hq]
      rw [hgl] at HGT
      rw [hq] at HST2
      have E1 : Hid (V = textT ((s.toList.drop j).drop m) (acc ++ (s.toList.drop j).take m)) := HST2.out
      have hdl := dec_le _ r m hq
      have hds := decL_some _ r m hq
      have hm4 : m ≤ 4 := by rw [hds.2.1]; exact putB_len r
      rw [len_drop] at hdl
      have dr : decide (r < 0) = false := decide_eq_false (by omega)
      have hjm : j + m ≤ s.size := by omega
      have x0 : (0 : Int) ≤ (j : Int) + (m : Int) := by omega
      have x1 : (j : Int) + (m : Int) ≤ (s.size : Int) := by omega
      have x2 : (j : Int) ≤ (j : Int) + (m : Int) := by omega
      have x3 : ((j : Int) + (m : Int)).toNat = j + m := by omega
      have hext : Hid ((s.extract j (j + m)).toList = (s.toList.drop j).take m) := extract_take s j m
      have hac2 : Hid ((acc ++ (s.toList.drop j).take m).length ≤ 4 * (j + m)) := by
        show _ ≤ _
        rw [List.length_append, List.length_take, len_drop]; omega
      have hlim : Hid (acc.length + ((s.toList.drop j).take m).length ≤ 120000000000000) := by
        show _ ≤ _
        rw [List.length_take, len_drop]; omega
      have hg4 : s.size - (j + m) + 1 ≤ gk - 1 := by omega
      have E2 : Hid (V = textT (s.toList.drop (j + m)) (acc ++ (s.toList.drop j).take m)) := by show _ = _; rw [E1.out, List.drop_drop]
      clear hq HST2 hgl hdl hds E1
      go_region_held3 (fun w' => w'.cell? ⟨rb, 0, none⟩ = some (.string s) ∧ w'.cell? ⟨rb, 1, none⟩ = some (.int .i64 j)) (first | exact ⟨c0, c1⟩ | exact ⟨d0, d1⟩) ((go_at_call 61; refine (HGT.out _).mono ?_; rintro e w4 ⟨rfl, hw4⟩; have H4 : Hid (RSt w4 rb s j d 0) := (show RSt w3.drew rb s j d 0 from H3.out).below hw4 (show RSt w3.drew rb s j d 0 from H3.out).lt; have G4 : Hid (w.grownBy w4 (some rb)) := (grown_drew G3.out).trans (grown_below hw4); have O4 : Hid (OwnU w4 w.heap.size (.slice A acc.length c) acc) := (show OwnU w3.drew w.heap.size (.slice A acc.length c) acc from O3.out).old hw4; obtain ⟨d0, d1, d2, d3⟩ := H4.out.cells4; clear hw4))
      all_goals
        have z4 : w.heap.size ≤ w4.heap.size := G4.out.size
        clear c0 c1 c2 c3
        go_wp2_with fail
        go_region_law (refine step_pushS rfl _ _ rfl w.heap.size _ acc rfl (show OwnU w4.drew w.heap.size _ acc from O4.out) (s.extract j (j + m)) (by simp [Act.eval, Act.put]) ((s.toList.drop j).take m) hext.out hlim.out (by simp; omega) ?_; intro v5 w5 n5 k5; obtain ⟨A5, c5, rfl⟩ := n5.form'; have N5 := Lib.hid n5; have K5 := Lib.hid k5; clear n5 k5)
        all_goals
          have h5 : RSt w5 rb s j d 0 := (show RSt w4.drew rb s j d 0 from H4.out).below K5.out.1 hrb
          have H6 : Hid (RSt (w5.setCell ⟨rb, 1, none⟩ (.int .i64 ((j : Int) + (m : Int)))) rb s (j + m) d 0) := by
            have := h5.set_ 1 (.int .i64 ((j + m : Nat) : Int))
            exact this
          have G6 : Hid (w.grownBy (w5.setCell ⟨rb, 1, none⟩ (.int .i64 ((j : Int) + (m : Int)))) (some rb)) := grown_set (KU.grown (B := 0) (grown_drew G4.out) K5.out) 1 _
          have O6 : Hid (OwnU (w5.setCell ⟨rb, 1, none⟩ (.int .i64 ((j : Int) + (m : Int)))) w.heap.size (.slice A5 (acc ++ (s.toList.drop j).take m).length c5) (acc ++ (s.toList.drop j).take m)) := N5.out.keepR (grown_set (grown_refl _ _) 1 _) hrb
          obtain ⟨e0, e1, e2, e3⟩ := h5.cells4
          have f1 := h5.frozen 1
          clear h5
          go_wp2_with fail
          go_roundg (gk - 1)
          case measure => omega
          case rel => exact ⟨j + m, acc ++ (s.toList.drop j).take m, A5, c5, 0, hjm, (by first | rfl | (simp; done)), O6, .inl ⟨rfl, E2.out, hg4, hac2.out⟩, H6, G6⟩
end Go.Proofs.Ytnhoecmcbikcnaa
/-! Values in new memory: nodes whose blocks lie in a set; a slice of nodes of the call's own. -/
namespace Go.Proofs.Ytnhoecmcbikcnaa
open Go.RowKit Go.PlainAid
set_option linter.unusedVariables false
set_option linter.unusedSimpArgs false
def RS (w : World) (S : Nat → Prop) (size : Nat) (A : Option Addr) (n : Nat) (xs : List Value) : Prop :=
  xs.length = n * size ∧ (0 < n → ∃ ad, A = some ad ∧ S ad.block ∧ ∀ j u, xs[j]? = some u → w.cell? (ad.add j) = some u)
theorem RS.keep {w w' : World} {S : Nat → Prop} {size n : Nat} {A : Option Addr} {xs : List Value} (h : RS w S size A n xs) (hk : ∀ p : Addr, S p.block → w'.cell? p = w.cell? p) : RS w' S size A n xs :=
  ⟨h.1, fun hn => by
    obtain ⟨ad, e, hb, hc⟩ := h.2 hn
    exact ⟨ad, e, hb, fun j u hu => (hk _ (by rw [block_of_add]; exact hb)).trans (hc j u hu)⟩⟩
theorem RS.mono {w : World} {S S' : Nat → Prop} {size n : Nat} {A : Option Addr} {xs : List Value} (h : RS w S size A n xs) (hs : ∀ b, S b → S' b) : RS w S' size A n xs :=
  ⟨h.1, fun hn => by
    obtain ⟨ad, e, hb, hc⟩ := h.2 hn
    exact ⟨ad, e, hs _ hb, hc⟩⟩
theorem RS.reads {w : World} {S : Nat → Prop} {size n B : Nat} {A : Option Addr} {xs : List Value} (h : RS w S size A n xs) (hs : ∀ b, S b → b < B) : Reads w B size A n xs := h.mono hs
theorem RS.none_ {w : World} {S : Nat → Prop} {size : Nat} {A : Option Addr} : RS w S size A 0 [] := ⟨by simp, fun h => absurd h (by omega)⟩
mutual
/-- these five cells are this node; what it refers to lies in blocks of a set -/
def NdIn (w : World) (S : Nat → Prop) : Nd → List Value → Prop
  | .mk k n t ks ns, cs => ∃ (A : Option Addr) (ck : Nat) (A2 : Option Addr) (c : Nat) (xs : List Value), cs = [.int .i64 k, .int .i64 n, .string t, .slice A ks.length ck, .slice A2 ns.length c] ∧
      RS w S 1 A ks.length (ks.map Value.string) ∧ RS w S 5 A2 ns.length xs ∧ NdsIn w S ns xs ∧
      I64 k ∧ I64 n ∧ t.size ≤ maxLen ∧ (∀ s ∈ ks, s.size ≤ maxLen) ∧ ks.length ≤ maxLen ∧ ns.length ≤ maxLen
def NdsIn (w : World) (S : Nat → Prop) : List Nd → List Value → Prop
  | [], xs => xs = []
  | n :: ns, xs => ∃ cs ys, xs = cs ++ ys ∧ NdIn w S n cs ∧ NdsIn w S ns ys
end
mutual
theorem NdIn.keep {w w' : World} {S S' : Nat → Prop} (hk : ∀ p : Addr, S p.block → w'.cell? p = w.cell? p) (hs : ∀ b, S b → S' b) : ∀ (n : Nd) (cs : List Value), NdIn w S n cs → NdIn w' S' n cs
  | .mk k m t ks ns, cs, h => by
    unfold NdIn at h ⊢
    obtain ⟨A, ck, A2, c, xs, h1, h2, h3, h4, h5⟩ := h
    exact ⟨A, ck, A2, c, xs, h1, (h2.keep hk).mono hs, (h3.keep hk).mono hs, NdsIn.keep hk hs ns xs h4, h5⟩
theorem NdsIn.keep {w w' : World} {S S' : Nat → Prop} (hk : ∀ p : Addr, S p.block → w'.cell? p = w.cell? p) (hs : ∀ b, S b → S' b) : ∀ (ns : List Nd) (xs : List Value), NdsIn w S ns xs → NdsIn w' S' ns xs
  | [], xs, h => by unfold NdsIn at h ⊢; exact h
  | n :: ns, xs, h => by
    unfold NdsIn at h ⊢
    obtain ⟨cs, ys, h1, h2, h3⟩ := h
    exact ⟨cs, ys, h1, NdIn.keep hk hs n cs h2, NdsIn.keep hk hs ns ys h3⟩
end
mutual
theorem NdIn.is {w : World} {S : Nat → Prop} {B : Nat} (hs : ∀ b, S b → b < B) : ∀ (n : Nd) (cs : List Value), NdIn w S n cs → NdIs w B n cs
  | .mk k m t ks ns, cs, h => by
    unfold NdIn at h
    unfold NdIs
    obtain ⟨A, ck, A2, c, xs, h1, h2, h3, h4, h5⟩ := h
    exact ⟨A, ck, A2, c, xs, h1, h2.reads hs, h3.reads hs, NdsIn.is hs ns xs h4, h5⟩
theorem NdsIn.is {w : World} {S : Nat → Prop} {B : Nat} (hs : ∀ b, S b → b < B) : ∀ (ns : List Nd) (xs : List Value), NdsIn w S ns xs → NdsIs w B ns xs
  | [], xs, h => by unfold NdsIn at h; unfold NdsIs; exact h
  | n :: ns, xs, h => by
    unfold NdsIn at h
    unfold NdsIs
    obtain ⟨cs, ys, h1, h2, h3⟩ := h
    exact ⟨cs, ys, h1, NdIn.is hs n cs h2, NdsIn.is hs ns ys h3⟩
end
mutual
theorem NdIs.in_ {w : World} {B : Nat} : ∀ (n : Nd) (cs : List Value), NdIs w B n cs → NdIn w (· < B) n cs
  | .mk k m t ks ns, cs, h => by
    unfold NdIs at h
    unfold NdIn
    obtain ⟨A, ck, A2, c, xs, h1, h2, h3, h4, h5⟩ := h
    exact ⟨A, ck, A2, c, xs, h1, h2, h3, NdsIs.in_ ns xs h4, h5⟩
theorem NdsIs.in_ {w : World} {B : Nat} : ∀ (ns : List Nd) (xs : List Value), NdsIs w B ns xs → NdsIn w (· < B) ns xs
  | [], xs, h => by unfold NdsIs at h; unfold NdsIn; exact h
  | n :: ns, xs, h => by
    unfold NdsIs at h
    unfold NdsIn
    obtain ⟨cs, ys, h1, h2, h3⟩ := h
    exact ⟨cs, ys, h1, NdIs.in_ n cs h2, NdsIs.in_ ns ys h3⟩
end
theorem NdIn.form {w : World} {S : Nat → Prop} {n : Nd} {cs : List Value} (h : NdIn w S n cs) : ∃ (k m : Int) (t : ByteArray) (A : Option Addr) (a c : Nat) (A2 : Option Addr) (b d : Nat),
    cs = [.int .i64 k, .int .i64 m, .string t, .slice A a c, .slice A2 b d] := by
  cases n
  unfold NdIn at h
  obtain ⟨A, ck, A2, c, xs, h1, _⟩ := h
  exact ⟨_, _, _, _, _, _, _, _, _, h1⟩
theorem NdsIn.app {w : World} {S : Nat → Prop} : ∀ (ns : List Nd) (xs : List Value) (n : Nd) (cs : List Value), NdsIn w S ns xs → NdIn w S n cs → NdsIn w S (ns ++ [n]) (xs ++ cs)
  | [], xs, n, cs, h, hn => by
    unfold NdsIn at h
    subst h
    show NdsIn w S (n :: []) _
    unfold NdsIn
    exact ⟨cs, [], by simp, hn, by unfold NdsIn; rfl⟩
  | m :: ns, xs, n, cs, h, hn => by
    unfold NdsIn at h
    obtain ⟨ds, ys, rfl, h2, h3⟩ := h
    show NdsIn w S (m :: (ns ++ [n])) _
    unfold NdsIn
    exact ⟨ds, ys ++ cs, by simp, h2, NdsIn.app ns ys n cs h3 hn⟩
theorem NdsIn.nil {w : World} {S : Nat → Prop} : NdsIn w S [] [] := by unfold NdsIn; rfl
theorem NdsIn.len {w : World} {S : Nat → Prop} : ∀ (ns : List Nd) (xs : List Value), NdsIn w S ns xs → xs.length = ns.length * 5
  | [], xs, h => by unfold NdsIn at h; subst h; rfl
  | n :: ns, xs, h => by
    unfold NdsIn at h
    obtain ⟨cs, ys, rfl, h2, h3⟩ := h
    obtain ⟨_, _, _, _, _, _, _, _, _, rfl⟩ := h2.form
    have := NdsIn.len ns ys h3
    simp; omega
theorem nodeInfo : (Try.prog.info? 27).map (fun i => (i.zero, i.size, i.bytes)) = some (some (.agg #[.int .i64 0, .int .i64 0, .string ⟨#[]⟩, .slice none 0 0, .slice none 0 0]), 5, 80) := by kernel_rfl
/-- blocks from h on that are not a slice's own -/
def SK (h : Nat) (w : World) (v : Value) (b : Nat) : Prop := h ≤ b ∧ b < w.heap.size ∧ v.ownBlock ≠ some b
theorem own_lt {w : World} {base size n : Nat} {e : TypeId} {v : Value} {xs : List Value} (h : w.ownsRow base e size v n xs) {g : Nat} (hg : v.ownBlock = some g) : base ≤ g ∧ g < w.heap.size := World.ownsRow.lt h g hg
/-- a node that stands in the newest block, appended to nodes of the call's own -/
theorem wpList_pushNd (w : World) {ops : Array Oper} {rest : List Oper} {o : Oper} {a : Act} {Q : Exit → Act → World → Prop} (hgd : o.guard = none) (s x : Operand)
    (ho : o.op = .call { callee := .builtin .append, args := #[s, x], argTypes := #[25, 25] })
    (B : Nat) (v : Value) (n : Nat) (xs : List Value) (hs : a.eval s = v) (hown : w.ownsRow B 27 5 v n xs) (c0 c1 : Int) (c2 : ByteArray) (c3 : Option Addr) (c4 c5 : Nat) (c6 : Option Addr) (c7 c8 : Nat)
    (hx : a.eval x = .slice (some ⟨w.heap.size, 0, none⟩) 1 1)
    (hlim : n + 1 ≤ 1000000000000) (hB : B ≤ w.heap.size)
    (h : ∀ v' w', w'.ownsRow B 27 5 v' (n + 1) (xs ++ [.int .i64 c0, .int .i64 c1, .string c2, .slice c3 c4 c5, .slice c6 c7 c8]) → w.grownBy w' v.ownBlock → (v'.ownBlock = v.ownBlock ∨ ∃ g, v'.ownBlock = some g ∧ w.heap.size ≤ g) → wpList Try.prog ops Q rest (a.put o.dst v') w') :
    wpList Try.prog ops Q (o :: rest) a (w.alloc (.cells #[.int .i64 c0, .int .i64 c1, .string c2, .slice c3 c4 c5, .slice c6 c7 c8] 27)) := by
  obtain ⟨i0, hi0, hz0, hz1, hz2⟩ := info_parts nodeInfo
  have hr : Reads (w.alloc (.cells #[.int .i64 c0, .int .i64 c1, .string c2, .slice c3 c4 c5, .slice c6 c7 c8] 27)) (w.heap.size + 1) 5 (some ⟨w.heap.size, 0, none⟩) 1 [.int .i64 c0, .int .i64 c1, .string c2, .slice c3 c4 c5, .slice c6 c7 c8] := by
    refine ⟨rfl, fun _ => ⟨_, rfl, by simp, fun j u hj => ?_⟩⟩
    have e : (⟨w.heap.size, 0, none⟩ : Addr).add j = ⟨w.heap.size, j, none⟩ := by unfold Addr.add; split <;> simp_all
    rw [e, World.cell?_alloc_mark]
    simpa using hj
  refine wpList_plain hgd fun K hK => ?_
  obtain ⟨v', w', h1, h2, h3, h4⟩ := run_append_any (P := Try.prog) _ B 25 o.type 27 i0 _ 5 80 Try.underlying25 hi0 hz0 hz1 hz2 rfl (by omega) v n _ (World.ownsRow.alloc hown _) (w.heap.size + 1) _ 1 1 _ hr
    (fun u hu => by simp at hu; rcases hu with rfl | rfl | rfl | rfl | rfl <;> rfl) (by simp only [maxLen]; omega) (by omega) (by simp; omega)
  unfold Oper.wp execOp
  simp only [ho, resolve, invoke, builtin, Sem.run_bind, Sem.run_pure, Result.andThen_ok, List.map_toArray, List.map_cons, List.map_nil, hs, hx, h1]
  refine hK _ _ (h v' w' h2 ((World.grownBy_alloc w _ _).trans h3) ?_)
  rcases h4 with h4 | h4
  · exact .inl h4
  · exact .inr ⟨_, h4, by simp⟩
theorem own_old {w w' : World} {base size n : Nat} {e : TypeId} {v : Value} {xs : List Value} (h : w.ownsRow base e size v n xs) (k : Below w.heap.size w w') : w'.ownsRow base e size v n xs := by
  have hg : w.grownBy w' none := ⟨k.os, k.tape, k.output, k.size, fun i hi _ => k.block i hi⟩
  exact World.ownsRow.kept h hg (by cases v.ownBlock <;> simp)
theorem own_form {w : World} {base size n : Nat} {e : TypeId} {v : Value} {xs : List Value} (h : w.ownsRow base e size v n xs) : ∃ A c, v = .slice A n c := by
  rcases h.2 with ⟨rfl, hx⟩ | ⟨g, cap, cur, rfl, _⟩
  · rw [hx]; exact ⟨_, _, rfl⟩
  · exact ⟨_, _, rfl⟩
/-- a slice of the call's own has grown: what lay beside it is as it was -/
theorem push_keep {h : Nat} {w w2 w3 : World} {v v' : Value} (hb : Below w.heap.size w w2) (hg : w2.grownBy w3 v.ownBlock) : ∀ p : Addr, SK h w v p.block → w3.cell? p = w.cell? p := fun p hp =>
  (World.cell?_of_block (hg.block p.block (by have := hb.size; have := hp.2.1; omega) (fun e => hp.2.2 e.symm))).trans (hb.cell hp.2.1)
theorem push_sub {h : Nat} {w w2 w3 : World} {v v' : Value} (hb : Below w.heap.size w w2) (hg : w2.grownBy w3 v.ownBlock) (hv : v'.ownBlock = v.ownBlock ∨ ∃ g, v'.ownBlock = some g ∧ w2.heap.size ≤ g) : ∀ b, SK h w v b → SK h w3 v' b := fun b hp => by
  refine ⟨hp.1, by have := hb.size; have := hg.size; have := hp.2.1; omega, ?_⟩
  rcases hv with e | ⟨g, e, hge⟩
  · rw [e]; exact hp.2.2
  · rw [e]; intro e2; injection e2 with e2; have := hb.size; have := hp.2.1; omega
theorem push_new_keep {B : Nat} {wa w2 w3 : World} {v : Value} (hg : w2.grownBy w3 v.ownBlock) (ho : ∀ g, v.ownBlock = some g → g < wa.heap.size) : ∀ p : Addr, wa.heap.size ≤ p.block ∧ p.block < w2.heap.size → w3.cell? p = w2.cell? p := fun p hp =>
  World.cell?_of_block (hg.block p.block hp.2 (fun e => by have := ho _ e.symm; omega))
theorem push_new_sub {h : Nat} {wa w2 w3 : World} {v v' : Value} (hh : h ≤ wa.heap.size) (hg : w2.grownBy w3 v.ownBlock) (ho : ∀ g, v.ownBlock = some g → g < wa.heap.size) (hv : v'.ownBlock = v.ownBlock ∨ ∃ g, v'.ownBlock = some g ∧ w2.heap.size ≤ g) :
    ∀ b, wa.heap.size ≤ b ∧ b < w2.heap.size → SK h w3 v' b := fun b hp => by
  refine ⟨by omega, by have := hg.size; omega, ?_⟩
  rcases hv with e | ⟨g, e, hge⟩
  · rw [e]; intro e2; have := ho b e2; omega
  · rw [e]; intro e2; injection e2 with e2; omega
end Go.Proofs.Ytnhoecmcbikcnaa
/-! The walk of canon's copied. -/
namespace Go.Proofs.Ytnhoecmcbikcnaa
open Go.RowKit Go.PlainAid
set_option linter.unusedVariables false
set_option linter.unusedSimpArgs false
/-- the blocks made since -/
def Since (w w' : World) (b : Nat) : Prop := w.heap.size ≤ b ∧ b < w'.heap.size
theorem spot_none {w : World} {a : Addr} {v : Value} (h : w.cell? a = some v) : a.spot = none := by
  unfold World.cell? at h
  split at h
  · split at h
    · cases h
    · rename_i hs
      simpa using hs
  · cases h
theorem clone_any (ks : List ByteArray) (A : Option Addr) (ck B : Nat) (w : World) (hks : Reads w B 1 A ks.length (ks.map Value.string)) (hl : ks.length ≤ 1000000) (hB : B ≤ w.heap.size) :
    Calls Try.prog 62 #[.slice A ks.length ck] w fun e w' => ∃ A' c', e = .returned (.slice A' ks.length c') ∧ RS w' (Since w w') 1 A' ks.length (ks.map Value.string) ∧ Below w.heap.size w w' := by
  cases A with
  | none =>
    have : ks = [] := by
      rcases Nat.eq_zero_or_pos ks.length with h | h
      · exact List.eq_nil_of_length_eq_zero h
      · obtain ⟨ad, h, _⟩ := hks.2 h; cases h
    subst this
    refine (Try.slices_Clone_string_nil _ ck w).mono ?_
    rintro e w' ⟨rfl, rfl⟩
    exact ⟨none, 0, rfl, RS.none_, Below.refl _ _⟩
  | some a =>
    rcases Nat.eq_zero_or_pos ks.length with h | h
    · have : ks = [] := List.eq_nil_of_length_eq_zero h
      subst this
      refine (Try.slices_Clone_string_zero a ck w).mono ?_
      rintro e w' ⟨v', rfl, ho, hne, hb⟩
      rcases ho.2 with ⟨rfl, _⟩ | ⟨g, cap, cur, rfl, _⟩
      · exact absurd rfl hne
      · exact ⟨_, _, rfl, RS.none_, hb⟩
    · obtain ⟨ad, e, hb, hc⟩ := hks.2 h
      injection e with e
      subst e
      have h0 := hc 0 _ (List.getElem?_eq_getElem (by simpa using h))
      have hs := spot_none h0
      rw [show a.add 0 = a by simp [Addr.add]] at hs
      have ha : a = ⟨a.block, a.off, none⟩ := by cases a; simp at hs; subst hs; rfl
      rw [ha]
      refine (Try.slices_Clone_string a.block a.off ks.length ck ks w (Nat.le_refl _) (by omega) (fun j hj => ?_)).mono ?_
      · have h1 := hc j (.string (ks.getD j ByteArray.empty)) (by rw [List.getElem?_map, List.getElem?_eq_getElem hj]; simp [List.getD, hj])
        rw [← h1]
        congr 1
        unfold Addr.add
        split
        · rename_i h0; subst h0; rw [ha]; rfl
        · rfl
      · rintro e w' ⟨v', rfl, ho, hne, hb'⟩
        rw [List.take_length] at ho
        obtain ⟨g, cap, hv, hg1, hg2⟩ := ho.form h
        subst hv
        refine ⟨_, _, rfl, ⟨by simp, fun _ => ⟨_, rfl, ⟨hg1, hg2⟩, ho.cells (g := g) rfl⟩⟩, hb'⟩
def NewNd (n : Nd) (w : World) (e : Ending) (w' : World) : Prop := ∃ (c0 c1 : Int) (c2 : ByteArray) (c3 : Option Addr) (c4 c5 : Nat) (c6 : Option Addr) (c7 c8 : Nat),
  e = .returned (.agg #[.int .i64 c0, .int .i64 c1, .string c2, .slice c3 c4 c5, .slice c6 c7 c8]) ∧ NdIn w' (Since w w') n [.int .i64 c0, .int .i64 c1, .string c2, .slice c3 c4 c5, .slice c6 c7 c8] ∧ Below w.heap.size w w'
def CopyC (vs : Array Value) (n : Nd) (w : World) : Prop := Calls Try.prog 52 #[.agg vs] w (NewNd n w)
def CopyH (B : Nat) (ns : List Nd) : Prop := ∀ (i : Nat) (n : Nd) (cs : List Value) (w' : World), ns[i]? = some n → NdIs w' B n cs → B ≤ w'.heap.size → CopyC cs.toArray n w'
set_option maxRecDepth 100000 in
set_option maxHeartbeats 3000000 in
theorem copied_step (k num : Int) (t : ByteArray) (ks : List ByteArray) (ns : List Nd) (A A2 : Option Addr) (ck cc : Nat) (xs : List Value) (w : World) (B : Nat)
    (hks : Reads w B 1 A ks.length (ks.map Value.string)) (hxs : Reads w B 5 A2 ns.length xs) (hns : NdsIs w B ns xs) (ht : t.size ≤ maxLen) (hsz : ∀ s ∈ ks, s.size ≤ maxLen) (hk1 : ks.length ≤ 1000000) (hk2 : ns.length ≤ 1000000)
    (hk0 : I64 k) (hn0 : I64 num) (hB : B ≤ w.heap.size) (HIH : Hid (CopyH B ns)) :
    CopyC #[.int .i64 k, .int .i64 num, .string t, .slice A ks.length ck, .slice A2 ns.length cc] (.mk k num t ks ns) w := by
  show Calls Try.prog 52 #[.agg #[.int .i64 k, .int .i64 num, .string t, .slice A ks.length ck, .slice A2 ns.length cc]] w _
  have HXS := Lib.hid hxs
  have HNS := Lib.hid hns
  have HCL : Hid (∀ w', Below w.heap.size w w' → Calls Try.prog 62 #[.slice A ks.length ck] w' fun e w'' => ∃ A' c', e = .returned (.slice A' ks.length c') ∧ RS w'' (Since w' w'') 1 A' ks.length (ks.map Value.string) ∧ Below w'.heap.size w' w'') := fun w' hb =>
    clone_any ks A ck B w' (hks.keep fun p hp => hb.cell (by omega)) hk1 (by have := hb.size; omega)
  have HF : Hid (I64 k ∧ I64 num ∧ t.size ≤ maxLen ∧ (∀ s ∈ ks, s.size ≤ maxLen)) := ⟨hk0, hn0, ht, hsz⟩
  have hA : Below w.heap.size w ((w.alloc (.cells #[.int .i64 k, .int .i64 num, .string t, .slice A ks.length ck, .slice A2 ns.length cc] 27)).alloc (.cells #[.int .i64 0, .int .i64 0, .string ⟨#[]⟩, .slice none 0 0, .slice none 0 0] 27)) := ((Below.refl _ _).alloc (Nat.le_refl _) _).alloc (by simp) _
  have hX : Blk ((w.alloc (.cells #[.int .i64 k, .int .i64 num, .string t, .slice A ks.length ck, .slice A2 ns.length cc] 27)).alloc (.cells #[.int .i64 0, .int .i64 0, .string ⟨#[]⟩, .slice none 0 0, .slice none 0 0] 27)) w.heap.size 27 #[.int .i64 k, .int .i64 num, .string t, .slice A ks.length ck, .slice A2 ns.length cc] := (Blk.new w _ _).alloc _
  have hY : Blk ((w.alloc (.cells #[.int .i64 k, .int .i64 num, .string t, .slice A ks.length ck, .slice A2 ns.length cc] 27)).alloc (.cells #[.int .i64 0, .int .i64 0, .string ⟨#[]⟩, .slice none 0 0, .slice none 0 0] 27)) (w.heap.size + 1) 27 #[.int .i64 0, .int .i64 0, .string ⟨#[]⟩, .slice none 0 0, .slice none 0 0] := by
    have := Blk.new (w.alloc (.cells #[.int .i64 k, .int .i64 num, .string t, .slice A ks.length ck, .slice A2 ns.length cc] 27)) 27 #[.int .i64 0, .int .i64 0, .string ⟨#[]⟩, .slice none 0 0, .slice none 0 0]
    simpa using this
  have HX := Lib.hid hX
  have HY := Lib.hid hY
  clear hks hxs hns ht hsz hk0 hn0 hX hY
  go_enter Try.func52, Try.ntmps52
  go_wp2_with fail
  refine (HCL.out _ hA).mono ?_; rintro e w1 ⟨A', c', rfl, hr1, hw1⟩
  have hB1 := hA.trans (hw1.mono (by simp; omega))
  have hX1 := HX.out.below hw1 (by simp; omega)
  have hY1 := HY.out.below hw1 (by simp)
  obtain ⟨c0, c1, c2, c3, c4⟩ := hX1.cells5
  have f3 : w1.frozen? ⟨w.heap.size, 3, none⟩ = false := hX1.frozen 3
  have hs1 : w.heap.size + 2 ≤ w1.heap.size := by have := hw1.size; simp at this; omega
  have HR1 : Hid (RS (w1.setCell ⟨w.heap.size, 3, none⟩ (.slice A' ks.length c')) (fun b => w.heap.size + 2 ≤ b ∧ b < w1.heap.size) 1 A' ks.length (ks.map Value.string)) :=
    (hr1.mono (fun b hb => by have := hb.1; simp at this; exact ⟨by omega, hb.2⟩)).keep (fun p hp => World.cell?_setCell_other _ _ _ _ (by intro e; subst e; have h5 : w.heap.size + 2 ≤ w.heap.size := hp.1; omega))
  have hX2 : Hid (Blk (w1.setCell ⟨w.heap.size, 3, none⟩ (.slice A' ks.length c')) w.heap.size 27 #[.int .i64 k, .int .i64 num, .string t, .slice A' ks.length c', .slice A2 ns.length cc]) := hX1.set_ 3 _
  have hY2 : Hid (Blk (w1.setCell ⟨w.heap.size, 3, none⟩ (.slice A' ks.length c')) (w.heap.size + 1) 27 #[.int .i64 0, .int .i64 0, .string ⟨#[]⟩, .slice none 0 0, .slice none 0 0]) := hY1.far (by simp) _
  have hB2 : Hid (Below w.heap.size w (w1.setCell ⟨w.heap.size, 3, none⟩ (.slice A' ks.length c'))) := hB1.setCell (p := ⟨w.heap.size, 3, none⟩) (Nat.le_refl _) _
  have hs2 : w.heap.size + 2 ≤ (w1.setCell ⟨w.heap.size, 3, none⟩ (.slice A' ks.length c')).heap.size := by simp; omega
  have HR2 : Hid (RS (w1.setCell ⟨w.heap.size, 3, none⟩ (.slice A' ks.length c')) (SK (w.heap.size + 2) (w1.setCell ⟨w.heap.size, 3, none⟩ (.slice A' ks.length c')) (.slice none 0 0)) 1 A' ks.length (ks.map Value.string)) :=
    HR1.out.mono fun b hb => ⟨hb.1, by simp; exact hb.2, by simp [Value.ownBlock]⟩
  clear hX1 hY1 hr1 hw1 hB1 HR1
  have d4 : (w1.setCell ⟨w.heap.size, 3, none⟩ (.slice A' ks.length c')).cell? ⟨w.heap.size, 4, none⟩ = some (.slice A2 ns.length cc) := hX2.out.cell 4
  clear c0 c1 c2
  go_wp2_with fail
  go_loopw [3, 13] (fun tv t13 wr => ∃ (i : Nat) (ys : List Value) (Aw : Option Addr) (cw : Nat), i ≤ ns.length ∧ t13 = .int .i64 i ∧ tv = .slice Aw i cw ∧ Hid (wr.ownsRow (w.heap.size + 2) 27 5 (.slice Aw i cw) i ys) ∧ Hid (NdsIn wr (SK (w.heap.size + 2) wr (.slice Aw i cw)) (ns.take i) ys) ∧ Hid (RS wr (SK (w.heap.size + 2) wr (.slice Aw i cw)) 1 A' ks.length (ks.map Value.string)) ∧
      Hid (Blk wr w.heap.size 27 #[.int .i64 k, .int .i64 num, .string t, .slice A' ks.length c', .slice A2 ns.length cc]) ∧ Hid (Blk wr (w.heap.size + 1) 27 #[.int .i64 0, .int .i64 0, .string ⟨#[]⟩, .slice none 0 0, .slice none 0 0]) ∧ Hid (Below w.heap.size w wr) ∧ w.heap.size + 2 ≤ wr.heap.size)
    (fun _ t13 _ => ns.length - (intOf t13).toNat)
  case atStart => exact ⟨0, [], none, 0, by omega, rfl, rfl, World.ownsRow_nil _ _ _ _, NdsIn.nil, HR2, hX2, hY2, hB2, hs2⟩
  case round =>
    clear HR2 hX2 hY2 hB2 hs2 d4 c3 c4 f3
    obtain ⟨i, ys, Aw, cw, hi, rfl, rfl, ho, hn, hr, hx, hy, hb, hs⟩ := hrel
    obtain ⟨wo, rfl⟩ : ∃ wo : World, wo = wr := ⟨_, rfl⟩
    by_cases hlt : i < ns.length
    · have hkeep : ∀ p : Addr, p.block < B → wo.cell? p = w.cell? p := fun p hp => hb.out.cell (by omega)
      obtain ⟨ad, n, v0, v1, v2, v3, v4, rfl, hadb, hni, hnd, e0, e1, e2, e3, e4⟩ := (HXS.out.keep hkeep).nd (NdsIs.keep hkeep _ _ HNS.out) hlt
      obtain ⟨x0, x1, x2, x3, x4, x5, x6, x7, x8, rfl, rfl, rfl, rfl, rfl⟩ := hnd.form
      have HNI := Lib.hid hni
      have HND := Lib.hid hnd
      have q3 : ¬ ad.block = wo.heap.size := by omega
      have q4 : ¬ (ad.add (i * 5)).block = wo.heap.size := by rw [block_of_add]; omega
      clear hni hnd hkeep
      have hWA : Below wo.heap.size wo (wo.alloc (.cells #[.int .i64 x0, .int .i64 x1, .string x2, .slice x3 x4 x5, .slice x6 x7 x8] 27)) := (Below.refl _ _).alloc (Nat.le_refl _) _
      have HWA := Lib.hid hWA
      go_wp2_with fail
      have HC := HIH.out i n [.int .i64 x0, .int .i64 x1, .string x2, .slice x3 x4 x5, .slice x6 x7 x8] _ HNI.out (HND.out.below (hWA.mono (by omega))) (by simp; omega)
      refine (HC : Calls _ _ _ _ _).mono ?_; rintro e w2 ⟨c0, c1, c2, c3, c4, c5, c6, c7, c8, rfl, hnew, hw2⟩
      have HNEW := Lib.hid hnew
      have HB2 : Hid (Below wo.heap.size wo w2) := HWA.out.trans (hw2.mono (by simp))
      have HO2 := Lib.hid (own_old ho.out HB2.out)
      have z2 : w.heap.size + 2 ≤ w2.heap.size := by have := HB2.out.size; omega
      have HS2 : Hid (wo.heap.size < w2.heap.size) := by have := hw2.size; simp at this; show _ < _; omega
      clear HC hnew hw2 hWA e0 e1 e2 e3 e4
      go_wp2_with (at_builtin; refine wpList_pushNd _ rfl _ _ rfl (w.heap.size + 2) _ i ys rfl HO2.out c0 c1 c2 c3 c4 c5 c6 c7 c8 rfl (by omega) z2 ?_; intro v' w3 ho3 hg3 hv3; obtain ⟨Av, cv, rfl⟩ := own_form ho3; have HO3 := Lib.hid ho3; have HG3 := Lib.hid hg3; have HV3 := Lib.hid hv3; clear ho3 hg3 hv3)
      have hown : ∀ g, (Value.slice Aw i cw).ownBlock = some g → g < wo.heap.size := fun g hg => (own_lt ho.out hg).2
      have hown2 : ∀ g, (Value.slice Aw i cw).ownBlock = some g → g < (wo.alloc (.cells #[.int .i64 x0, .int .i64 x1, .string x2, .slice x3 x4 x5, .slice x6 x7 x8] 27)).heap.size := fun g hg => by have := hown g hg; simp; omega
      have hown3 : ∀ g, g < w.heap.size + 2 → some g ≠ (Value.slice Aw i cw).ownBlock := fun g hg e => by have := (own_lt ho.out e.symm).1; omega
      have g1 : Hid (NdsIn w3 (SK (w.heap.size + 2) w3 (.slice Av (i + 1) cv)) (ns.take (i + 1)) (ys ++ [.int .i64 c0, .int .i64 c1, .string c2, .slice c3 c4 c5, .slice c6 c7 c8])) := by
        show NdsIn _ _ _ _
        rw [take_snoc HNI.out]
        refine NdsIn.app _ _ _ _ (NdsIn.keep (push_keep (v' := .slice Av (i + 1) cv) HB2.out HG3.out) (push_sub HB2.out HG3.out HV3.out) _ _ hn.out) (NdIn.keep (S := Since _ w2) (push_new_keep (B := 0) HG3.out hown2) (push_new_sub (by simp; omega) HG3.out hown2 HV3.out) _ _ HNEW.out)
      have g2 : Hid (RS w3 (SK (w.heap.size + 2) w3 (.slice Av (i + 1) cv)) 1 A' ks.length (ks.map Value.string)) := (hr.out.keep (push_keep (v' := .slice Av (i + 1) cv) HB2.out HG3.out)).mono (push_sub HB2.out HG3.out HV3.out)
      have g3 : Hid (Blk w3 w.heap.size 27 #[.int .i64 k, .int .i64 num, .string t, .slice A' ks.length c', .slice (some ad) ns.length cc]) := (hx.out.below HB2.out (by omega)).grown HG3.out (hown3 _ (by omega))
      have g4 : Hid (Blk w3 (w.heap.size + 1) 27 #[.int .i64 0, .int .i64 0, .string ⟨#[]⟩, .slice none 0 0, .slice none 0 0]) := (hy.out.below HB2.out (by omega)).grown HG3.out (hown3 _ (by omega))
      have g5 : Hid (Below w.heap.size w w3) := (hb.out.trans (HB2.out.mono (by omega))).grown HG3.out (by omega) (fun g hg => by have := (own_lt ho.out hg).1; omega)
      have g6 : w.heap.size + 2 ≤ w3.heap.size := by have := HG3.out.size; omega
      clear hown hown2 hown3
      go_wp2_with fail
      go_roundw
      case rel => exact ⟨i + 1, _, _, _, by omega, by go_num, rfl, HO3, g1, g2, g3, g4, g5, g6⟩
      case measure => simp [intOf]; omega
    · have hin : i = ns.length := by omega
      have HIN := Lib.hid hin
      clear hin
      have f4 : wo.frozen? ⟨w.heap.size, 4, none⟩ = false := hx.out.frozen 4
      obtain ⟨c0, c1, c2, c3, c4⟩ := hx.out.cells5
      obtain ⟨d0, d1, d2, d3, d4⟩ := hy.out.cells5
      have e0 : wo.frozen? ⟨w.heap.size + 1, 0, none⟩ = false := hy.out.frozen 0
      have e1 : wo.frozen? ⟨w.heap.size + 1, 1, none⟩ = false := hy.out.frozen 1
      have e2 : wo.frozen? ⟨w.heap.size + 1, 2, none⟩ = false := hy.out.frozen 2
      have e3 : wo.frozen? ⟨w.heap.size + 1, 3, none⟩ = false := hy.out.frozen 3
      have e4 : wo.frozen? ⟨w.heap.size + 1, 4, none⟩ = false := hy.out.frozen 4
      go_wp2_with fail
      have hfin : Hid (Blk ((((((wo.setCell ⟨w.heap.size, 4, none⟩ (.slice Aw i cw)).setCell ⟨w.heap.size + 1, 0, none⟩ (.int .i64 k)).setCell ⟨w.heap.size + 1, 1, none⟩ (.int .i64 num)).setCell ⟨w.heap.size + 1, 2, none⟩ (.string t)).setCell ⟨w.heap.size + 1, 3, none⟩ (.slice A' ks.length c')).setCell ⟨w.heap.size + 1, 4, none⟩ (.slice Aw i cw)) (w.heap.size + 1) 27 #[.int .i64 k, .int .i64 num, .string t, .slice A' ks.length c', .slice Aw i cw]) := ((((((hy.out.far (by simp) _).set_ 0 _).set_ 1 _).set_ 2 _).set_ 3 _).set_ 4 _)
      have hbel : Hid (Below w.heap.size w ((((((wo.setCell ⟨w.heap.size, 4, none⟩ (.slice Aw i cw)).setCell ⟨w.heap.size + 1, 0, none⟩ (.int .i64 k)).setCell ⟨w.heap.size + 1, 1, none⟩ (.int .i64 num)).setCell ⟨w.heap.size + 1, 2, none⟩ (.string t)).setCell ⟨w.heap.size + 1, 3, none⟩ (.slice A' ks.length c')).setCell ⟨w.heap.size + 1, 4, none⟩ (.slice Aw i cw))) := (((((hb.out.setCell (p := ⟨w.heap.size, 4, none⟩) (Nat.le_refl _) _).setCell (p := ⟨w.heap.size + 1, 0, none⟩) (by simp) _).setCell (p := ⟨w.heap.size + 1, 1, none⟩) (by simp) _).setCell (p := ⟨w.heap.size + 1, 2, none⟩) (by simp) _).setCell (p := ⟨w.heap.size + 1, 3, none⟩) (by simp) _).setCell (p := ⟨w.heap.size + 1, 4, none⟩) (by simp) _
      have hkp : ∀ p : Addr, SK (w.heap.size + 2) wo (.slice Aw i cw) p.block → (((((((wo.setCell ⟨w.heap.size, 4, none⟩ (.slice Aw i cw)).setCell ⟨w.heap.size + 1, 0, none⟩ (.int .i64 k)).setCell ⟨w.heap.size + 1, 1, none⟩ (.int .i64 num)).setCell ⟨w.heap.size + 1, 2, none⟩ (.string t)).setCell ⟨w.heap.size + 1, 3, none⟩ (.slice A' ks.length c')).setCell ⟨w.heap.size + 1, 4, none⟩ (.slice Aw i cw))).cell? p = wo.cell? p := fun p hp => by
        have h1 := hp.1
        have ne : ∀ (g o : Nat), g < w.heap.size + 2 → (⟨g, o, none⟩ : Addr) ≠ p := fun g o hg e => by subst e; have h2 : w.heap.size + 2 ≤ g := h1; omega
        rw [World.cell?_setCell_other _ _ _ _ (ne _ _ (by omega)), World.cell?_setCell_other _ _ _ _ (ne _ _ (by omega)), World.cell?_setCell_other _ _ _ _ (ne _ _ (by omega)), World.cell?_setCell_other _ _ _ _ (ne _ _ (by omega)), World.cell?_setCell_other _ _ _ _ (ne _ _ (by omega)), World.cell?_setCell_other _ _ _ _ (ne _ _ (by omega))]
      have hsz' : ((((((wo.setCell ⟨w.heap.size, 4, none⟩ (.slice Aw i cw)).setCell ⟨w.heap.size + 1, 0, none⟩ (.int .i64 k)).setCell ⟨w.heap.size + 1, 1, none⟩ (.int .i64 num)).setCell ⟨w.heap.size + 1, 2, none⟩ (.string t)).setCell ⟨w.heap.size + 1, 3, none⟩ (.slice A' ks.length c')).setCell ⟨w.heap.size + 1, 4, none⟩ (.slice Aw i cw)).heap.size = wo.heap.size := by simp
      have hsub : ∀ b, SK (w.heap.size + 2) wo (.slice Aw i cw) b → Since w ((((((wo.setCell ⟨w.heap.size, 4, none⟩ (.slice Aw i cw)).setCell ⟨w.heap.size + 1, 0, none⟩ (.int .i64 k)).setCell ⟨w.heap.size + 1, 1, none⟩ (.int .i64 num)).setCell ⟨w.heap.size + 1, 2, none⟩ (.string t)).setCell ⟨w.heap.size + 1, 3, none⟩ (.slice A' ks.length c')).setCell ⟨w.heap.size + 1, 4, none⟩ (.slice Aw i cw)) b := fun b hp => ⟨by have := hp.1; omega, by rw [hsz']; exact hp.2.1⟩
      have hrow : RS ((((((wo.setCell ⟨w.heap.size, 4, none⟩ (.slice Aw i cw)).setCell ⟨w.heap.size + 1, 0, none⟩ (.int .i64 k)).setCell ⟨w.heap.size + 1, 1, none⟩ (.int .i64 num)).setCell ⟨w.heap.size + 1, 2, none⟩ (.string t)).setCell ⟨w.heap.size + 1, 3, none⟩ (.slice A' ks.length c')).setCell ⟨w.heap.size + 1, 4, none⟩ (.slice Aw i cw)) (Since w ((((((wo.setCell ⟨w.heap.size, 4, none⟩ (.slice Aw i cw)).setCell ⟨w.heap.size + 1, 0, none⟩ (.int .i64 k)).setCell ⟨w.heap.size + 1, 1, none⟩ (.int .i64 num)).setCell ⟨w.heap.size + 1, 2, none⟩ (.string t)).setCell ⟨w.heap.size + 1, 3, none⟩ (.slice A' ks.length c')).setCell ⟨w.heap.size + 1, 4, none⟩ (.slice Aw i cw))) 5 Aw i ys := by
        refine ⟨ho.out.1, fun hn0 => ?_⟩
        obtain ⟨g, cap, hv, hg1, hg2⟩ := ho.out.form hn0
        injection hv with hv1 hv2 hv3
        subst hv1
        refine ⟨_, rfl, ⟨by show _ ≤ g; omega, by rw [hsz']; exact hg2⟩, fun j u hu => ?_⟩
        have := ho.out.cells (g := g) rfl j u hu
        rw [← this]
        have ne : ∀ (g' o : Nat), g' < w.heap.size + 2 → (⟨g', o, none⟩ : Addr) ≠ (⟨g, 0, none⟩ : Addr).add j := fun g' o hg e => by
          have h2 := congrArg Addr.block e
          rw [block_of_add] at h2
          have h3 : g' = g := h2
          omega
        rw [World.cell?_setCell_other _ _ _ _ (ne _ _ (by omega)), World.cell?_setCell_other _ _ _ _ (ne _ _ (by omega)), World.cell?_setCell_other _ _ _ _ (ne _ _ (by omega)), World.cell?_setCell_other _ _ _ _ (ne _ _ (by omega)), World.cell?_setCell_other _ _ _ _ (ne _ _ (by omega)), World.cell?_setCell_other _ _ _ _ (ne _ _ (by omega))]
      have hnd : Hid (NdIn ((((((wo.setCell ⟨w.heap.size, 4, none⟩ (.slice Aw i cw)).setCell ⟨w.heap.size + 1, 0, none⟩ (.int .i64 k)).setCell ⟨w.heap.size + 1, 1, none⟩ (.int .i64 num)).setCell ⟨w.heap.size + 1, 2, none⟩ (.string t)).setCell ⟨w.heap.size + 1, 3, none⟩ (.slice A' ks.length c')).setCell ⟨w.heap.size + 1, 4, none⟩ (.slice Aw i cw)) (Since w ((((((wo.setCell ⟨w.heap.size, 4, none⟩ (.slice Aw i cw)).setCell ⟨w.heap.size + 1, 0, none⟩ (.int .i64 k)).setCell ⟨w.heap.size + 1, 1, none⟩ (.int .i64 num)).setCell ⟨w.heap.size + 1, 2, none⟩ (.string t)).setCell ⟨w.heap.size + 1, 3, none⟩ (.slice A' ks.length c')).setCell ⟨w.heap.size + 1, 4, none⟩ (.slice Aw i cw))) (.mk k num t ks ns) [.int .i64 k, .int .i64 num, .string t, .slice A' ks.length c', .slice Aw i cw]) := by
        have ht := hn.out
        have hin := HIN.out
        subst hin
        rw [List.take_length] at ht
        show NdIn _ _ _ _
        unfold NdIn
        exact ⟨A', c', Aw, cw, ys, rfl, (hr.out.keep hkp).mono hsub, hrow, NdsIn.keep hkp hsub _ _ ht, HF.out.1, HF.out.2.1, HF.out.2.2.1, HF.out.2.2.2, by unfold maxLen; omega, by unfold maxLen; omega⟩
      have HFIN := hfin.out
      clear hkp hsz' hsub hrow
      generalize ((((((wo.setCell ⟨w.heap.size, 4, none⟩ (.slice Aw i cw)).setCell ⟨w.heap.size + 1, 0, none⟩ (.int .i64 k)).setCell ⟨w.heap.size + 1, 1, none⟩ (.int .i64 num)).setCell ⟨w.heap.size + 1, 2, none⟩ (.string t)).setCell ⟨w.heap.size + 1, 3, none⟩ (.slice A' ks.length c')).setCell ⟨w.heap.size + 1, 4, none⟩ (.slice Aw i cw)) = WF at *
      obtain ⟨q0, q1, q2, q3, q4⟩ := HFIN.cells5
      refine bodyPost_ret (v := .agg #[.int .i64 k, .int .i64 num, .string t, .slice A' ks.length c', .slice Aw i cw]) (by simp [results, Try.results52, go_sem, q0, q1, q2, q3, q4]) rfl ?_
      exact ⟨_, _, _, _, _, _, _, _, _, rfl, hnd.out, hbel.out⟩
theorem sizeOkL_get : ∀ (ns : List Nd) (i : Nat) (n : Nd), ns[i]? = some n → sizeOkL ns → sizeOk n
  | [], i, n, h, _ => by simp at h
  | a :: ns, i, n, h, hs => by
    unfold sizeOkL at hs
    cases i with
    | zero => simp at h; subst h; exact hs.1
    | succ i => exact sizeOkL_get ns i n (by simpa using h) hs.2
theorem copied_any : ∀ (m : Nat) (n : Nd), n.count ≤ m → ∀ (B : Nat) (cs : List Value) (w : World), NdIs w B n cs → B ≤ w.heap.size → sizeOk n → CopyC cs.toArray n w := by
  intro m
  induction m with
  | zero => intro n hm; have := n.count_pos; omega
  | succ m ih =>
    intro n hm B cs w hn hB hs
    cases n with
    | mk k num t ks ns =>
      unfold NdIs at hn
      obtain ⟨A, ck, A2, cc, xs, rfl, hks, hxs, hns, ik, inn, ht, hkl, hk, hmm⟩ := hn
      unfold sizeOk at hs
      obtain ⟨s1, s2, s3, s4, s5⟩ := hs
      refine copied_step k num t ks ns A A2 ck cc xs w B hks hxs hns ht hkl s4.1 s4.2 ik inn hB ?_
      intro i n cs w' h1 h2 h3
      refine ih n ?_ B cs w' h2 h3 (sizeOkL_get ns i n h1 s5)
      have := Nd.counts_get ns i n h1
      simp only [Nd.count] at hm; omega
end Go.Proofs.Ytnhoecmcbikcnaa
/-! The reference's reader: whole numbers. -/
namespace Go.Proofs.Ytnhoecmcbikcnaa
open Go.RowKit Go.PlainAid
set_option linter.unusedVariables false
set_option linter.unusedSimpArgs false
theorem numTail_val (neg : Bool) {ds rest : List UInt8} (hd : AllDig ds) (hr : digH rest = false) :
    numTail neg (ds ++ rest) = if ds = [] ∨ (1 < ds.length ∧ ds.head? = some 48) ∨ 9007199254740991 < valD 0 ds ∨ (neg = true ∧ valD 0 ds = 0) ∨ pointB rest = true then none else some (if neg = true then - valD 0 ds else valD 0 ds, rest) := by
  unfold numTail
  have h1 : (ds ++ rest).takeWhile digB = ds := by rw [takeW_app hd, (takeW_none hr).1, List.append_nil]
  have h2 : (ds ++ rest).dropWhile digB = rest := by rw [dropW_app hd, (takeW_none hr).2]
  rw [h1, h2]
  cases ds with
  | nil => simp
  | cons a ds => rfl
/-- the number so far -/
def NInv (ds : List UInt8) (N : Int) : Prop := AllDig ds ∧ (N ≤ 9007199254740991 → N = valD 0 ds) ∧ (9007199254740991 < N → 9007199254740991 < valD 0 ds) ∧ 0 ≤ N ∧ N ≤ 90071992547409919
theorem NInv.nil : NInv [] 0 := ⟨fun x hx => by simp at hx, fun _ => rfl, fun h => by omega, by omega, by omega⟩
theorem NInv.step {ds : List UInt8} {N : Int} {u : UInt8} (h : NInv ds N) (hu : digB u = true) (hN : N ≤ 9007199254740991) : NInv (ds ++ [u]) (10 * N + ((u.toNat : Int) - 48)) := by
  obtain ⟨h1, h2, h3, h4, h5⟩ := h
  have bd := digB_bd hu
  have e : valD 0 (ds ++ [u]) = 10 * N + ((u.toNat : Int) - 48) := by rw [valD_snoc, ← h2 hN]; omega
  exact ⟨h1.snoc hu, fun _ => e.symm, fun h => by rw [e]; exact h, by omega, by omega⟩
theorem NInv.big {ds : List UInt8} {N : Int} {u : UInt8} (h : NInv ds N) (hu : digB u = true) (hN : ¬ N ≤ 9007199254740991) : NInv (ds ++ [u]) N := by
  obtain ⟨h1, h2, h3, h4, h5⟩ := h
  have bd := digB_bd hu
  have e := valD_snoc 0 ds u
  have := h3 (by omega)
  exact ⟨h1.snoc hu, fun h => absurd h hN, fun _ => by rw [e]; omega, h4, h5⟩
theorem digH_at {s : ByteArray} {j : Nat} (hj : j < s.size) : digH (s.toList.drop j) = decide (48 ≤ bt s j ∧ bt s j ≤ 57) := by
  obtain ⟨u, hu, hd⟩ := drop_cons s j hj
  rw [hd]
  show digB u = _
  unfold digB
  rw [Bool.eq_iff_iff, decide_eq_true_eq, decide_eq_true_eq]
  omega
theorem pointB_at {s : ByteArray} {j : Nat} (hj : j < s.size) : pointB (s.toList.drop j) = decide (bt s j = 46 ∨ bt s j = 101 ∨ bt s j = 69) := by
  obtain ⟨u, hu, hd⟩ := drop_cons s j hj
  rw [hd]
  have e : ∀ (c : UInt8) (n : Int), (c.toNat : Int) = n → (u == c) = decide (bt s j = n) := fun c n hn => by
    rw [Bool.eq_iff_iff, beq_iff_eq, decide_eq_true_eq, hu, ← hn]
    exact ⟨fun h => by rw [h], fun h => UInt8.toNat_inj.1 (by omega)⟩
  show (u == 46 || u == 101 || u == 69) = _
  rw [e 46 46 rfl, e 101 101 rfl, e 69 69 rfl]
  simp [Bool.or_assoc]
/-- the rest of a value's reading: a node, or an error -/
def RNode (n : Nd) (w w' : World) (e : Ending) : Prop := ∃ (c0 c1 : Int) (c2 : ByteArray) (c3 : Option Addr) (c4 c5 : Nat) (c6 : Option Addr) (c7 c8 : Nat), e = .returned (.agg #[.int .i64 c0, .int .i64 c1, .string c2, .slice c3 c4 c5, .slice c6 c7 c8]) ∧ NdIn w' (Since w w') n [.int .i64 c0, .int .i64 c1, .string c2, .slice c3 c4 c5, .slice c6 c7 c8]
def RAny (e : Ending) : Prop := ∃ (c0 c1 : Int) (c2 : ByteArray) (c3 : Option Addr) (c4 c5 : Nat) (c6 : Option Addr) (c7 c8 : Nat), e = .returned (.agg #[.int .i64 c0, .int .i64 c1, .string c2, .slice c3 c4 c5, .slice c6 c7 c8])
def RNum (rb : Nat) (s : ByteArray) (d : Nat) (r : Option (Int × List UInt8)) (w : World) (e : Ending) (w' : World) : Prop :=
  match r with
  | none => RAny e ∧ RBad rb s d 3 w w'
  | some (n, l) => e = .returned (.agg #[.int .i64 4, .int .i64 n, .string ⟨#[]⟩, .slice none 0 0, .slice none 0 0]) ∧ RTo rb s d l w w'
theorem RNum.no {rb : Nat} {s : ByteArray} {d : Nat} {r : Option (Int × List UInt8)} {w : World} {e : Ending} {w' : World} (hr : r = none) (h : RAny e ∧ RBad rb s d 3 w w') : RNum rb s d r w e w' := by subst hr; exact h
theorem RNum.yes {rb : Nat} {s : ByteArray} {d : Nat} {r : Option (Int × List UInt8)} {n : Int} {l : List UInt8} {w : World} {e : Ending} {w' : World} (hr : r = some (n, l))
    (h : e = .returned (.agg #[.int .i64 4, .int .i64 n, .string ⟨#[]⟩, .slice none 0 0, .slice none 0 0]) ∧ RTo rb s d l w w') : RNum rb s d r w e w' := by subst hr; exact h
def Z5 : Array Value := #[.int .i64 0, .int .i64 0, .string ⟨#[]⟩, .slice none 0 0, .slice none 0 0]
end Go.Proofs.Ytnhoecmcbikcnaa
