/- Texts of one seat, one behind the other: Rp7, Rp8, Rp9, Rp10, Rp10a, Rp10b, Rp10c, Rp10d, Rp11. No condition. -/
import Derived.Test.YtnhoecmcbikcnaaQ7
import Derived.Deep.DeepCutAuto
/-! The reference's reader: arrays. -/
namespace Go.Proofs.Ytnhoecmcbikcnaa
open Go.RowKit Go.PlainAid
set_option linter.unusedVariables false
set_option linter.unusedSimpArgs false
set_option maxRecDepth 100000 in
set_option maxHeartbeats 4000000 in
theorem rlistA_any (rb : Nat) (s : ByteArray) (k d : Nat) (w : World) (h : RSt w rb s k d 0) (hk : k ≤ s.size) (hs : s.size ≤ 1000000)
    (HV : Hid (d < 24 → ∀ k' w', k ≤ k' → k' ≤ s.size → RSt w' rb s k' (d + 1) 0 → VCall rb s (d + 1) k' w')) :
    Calls Try.prog 49 #[.pointer (some ⟨rb, 0, none⟩), .bool false] w (RVal rb s d (listA d (s.toList.drop k)) w) := by
  obtain ⟨V, hV⟩ : ∃ V, V = listA d (s.toList.drop k) := ⟨_, rfl⟩
  rw [← hV]
  have hrb := h.lt
  have hb := get_bt s
  obtain ⟨c0, c1, c2, c3⟩ := h.cells4
  have f2 := h.frozen 2
  by_cases hdd : 24 ≤ d
  · have E1 : Hid (V = .error 4) := by show _ = _; rw [hV]; unfold listA; rw [if_pos hdd]
    have ddI : (24 : Int) ≤ (d : Int) := by omega
    have R0 : Hid (RSt ((w.alloc (.cells #[.int .i64 0, .int .i64 0, .string ⟨#[]⟩, .slice none 0 0, .slice none 0 0] 27)).alloc (.cells #[.int .i64 6, .int .i64 0, .string ⟨#[]⟩, .slice none 0 0, .slice none 0 0] 27)) rb s k d 0) := (h.alloc _).alloc _
    have S0 : Hid (Blk ((w.alloc (.cells #[.int .i64 0, .int .i64 0, .string ⟨#[]⟩, .slice none 0 0, .slice none 0 0] 27)).alloc (.cells #[.int .i64 6, .int .i64 0, .string ⟨#[]⟩, .slice none 0 0, .slice none 0 0] 27)) w.heap.size 27 #[.int .i64 0, .int .i64 0, .string ⟨#[]⟩, .slice none 0 0, .slice none 0 0]) := (Blk.new w _ _).alloc _
    have N0 : Hid (Blk ((w.alloc (.cells #[.int .i64 0, .int .i64 0, .string ⟨#[]⟩, .slice none 0 0, .slice none 0 0] 27)).alloc (.cells #[.int .i64 6, .int .i64 0, .string ⟨#[]⟩, .slice none 0 0, .slice none 0 0] 27)) (w.heap.size + 1) 27 #[.int .i64 6, .int .i64 0, .string ⟨#[]⟩, .slice none 0 0, .slice none 0 0]) := by
      have := Blk.new (w.alloc (.cells #[.int .i64 0, .int .i64 0, .string ⟨#[]⟩, .slice none 0 0, .slice none 0 0] 27)) 27 #[.int .i64 6, .int .i64 0, .string ⟨#[]⟩, .slice none 0 0, .slice none 0 0]
      show Blk _ _ _ _
      simpa using this
    have G0 : Hid (w.grownBy ((w.alloc (.cells #[.int .i64 0, .int .i64 0, .string ⟨#[]⟩, .slice none 0 0, .slice none 0 0] 27)).alloc (.cells #[.int .i64 6, .int .i64 0, .string ⟨#[]⟩, .slice none 0 0, .slice none 0 0] 27)) (some rb)) := grown_alloc (grown_alloc (grown_refl _ _) _) _
    clear hV h HV
    go_enter Try.func49, Try.ntmps49
    go_wp2_with fail
    refine (rfail_0 rb s k d 4 _ R0.out).mono ?_; rintro e w1 ⟨rfl, h1, g1⟩
    have RF := Lib.hid h1
    have NF := Lib.hid (N0.out.grown g1 (by intro e; injection e with e; omega))
    have SF := Lib.hid (S0.out.grown g1 (by intro e; injection e with e; omega))
    have GF := Lib.hid (G0.out.trans g1)
    obtain ⟨wf, rfl⟩ : ∃ wf : World, wf = w1 := ⟨_, rfl⟩
    clear h1 g1 R0 S0 N0 G0
    obtain ⟨n0, n1, n2, n3, n4⟩ := NF.out.cells5
    obtain ⟨z0, z1, z2, z3, z4⟩ := SF.out.cells5
    have f0 := SF.out.frozen 0
    have f1 := SF.out.frozen 1
    have f2 := SF.out.frozen 2
    have f3 := SF.out.frozen 3
    have f4 := SF.out.frozen 4
    obtain ⟨hfin, hgr, hsz, hot⟩ := laid5 SF.out GF.out (Nat.le_refl _) (.int .i64 6) (.int .i64 0) (.string ⟨#[]⟩) (.slice none 0 0) (.slice none 0 0)
    have HFIN := Lib.hid hfin; have HGR := Lib.hid hgr; have HSZ := Lib.hid hsz; have HOT := Lib.hid hot
    clear hfin hgr hsz hot
    go_wp2_with fail
    clear f0 f1 f2 f3 f4 z0 z1 z2 z3 z4 n0 n1 n2 n3 n4
    generalize (((((wf.setCell ⟨w.heap.size, 0, none⟩ (.int .i64 6)).setCell ⟨w.heap.size, 1, none⟩ (.int .i64 0)).setCell ⟨w.heap.size, 2, none⟩ (.string ⟨#[]⟩)).setCell ⟨w.heap.size, 3, none⟩ (.slice none 0 0)).setCell ⟨w.heap.size, 4, none⟩ (.slice none 0 0)) = WF at *
    obtain ⟨q0, q1, q2, q3, q4⟩ := HFIN.out.cells5
    refine bodyPost_ret (v := .agg #[.int .i64 6, .int .i64 0, .string ⟨#[]⟩, .slice none 0 0, .slice none 0 0]) (by simp [results, Try.results49, go_sem, q0, q1, q2, q3, q4]) rfl ?_
    exact RVal.no E1.out ⟨_, _, _, _, _, _, _, _, _, rfl⟩ ⟨k, hk, (HOT.out rb (by omega)).trans RF.out, HGR.out⟩
  have HV2 : Hid (∀ k' w', k ≤ k' → k' ≤ s.size → RSt w' rb s k' (d + 1) 0 → VCall rb s (d + 1) k' w') := HV.out (by omega)
  have hdI : (d : Int) < 24 := by omega
  have hdN : d < 24 := by omega
  have HE0 : Hid (V = if (blanksL (s.toList.drop k)).head? = some 93 then .ok (.mk 6 0 ⟨#[]⟩ [] [], (blanksL (s.toList.drop k)).tail) else arrL d (blanksL (s.toList.drop k)) []) := by show _ = _; rw [hV]; unfold listA; rw [if_neg hdd]
  have L0 := Lib.hid (LInv.start w rb 6 (.int .i64 ((d : Int) + 1)) hrb)
  have R0 : Hid (RSt (((w.setCell ⟨rb, 2, none⟩ (.int .i64 ((d : Int) + 1))).alloc (.cells #[.int .i64 0, .int .i64 0, .string ⟨#[]⟩, .slice none 0 0, .slice none 0 0] 27)).alloc (.cells #[.int .i64 6, .int .i64 0, .string ⟨#[]⟩, .slice none 0 0, .slice none 0 0] 27)) rb s k (d + 1) 0) := by
    have := ((h.set_ 2 (.int .i64 ((d + 1 : Nat) : Int))).alloc (.cells #[.int .i64 0, .int .i64 0, .string ⟨#[]⟩, .slice none 0 0, .slice none 0 0] 27)).alloc (.cells #[.int .i64 6, .int .i64 0, .string ⟨#[]⟩, .slice none 0 0, .slice none 0 0] 27)
    exact this
  have x1 : IntKind.i64.wrap ((d : Int) + 1) = (d : Int) + 1 := IntWalk.i64_in _ (by omega)
  have x2 : IntKind.i64.wrap (d : Int) = (d : Int) := IntWalk.i64_in _ (by omega)
  clear hV h HV hdd
  go_enter Try.func49, Try.ntmps49
  go_wp2_with fail
  refine (rblanks_any rb s k (d + 1) 0 _ R0.out hk hs).mono ?_; rintro e w1 ⟨rfl, k1, hk1, hd1, h1, g1⟩
  have hkk1 := blanks_at hd1 hk1 hk
  have L1 := Lib.hid (L0.out.next g1 hrb)
  have R1 := Lib.hid h1
  have D1 := Lib.hid hd1
  clear h1 g1 hd1 L0 R0 c0 c1 c2 c3 f2
  go_wp2_with fail
  by_cases p93 : k1 < s.size ∧ bt s k1 = 93
  · have E1 : Hid (V = .ok (.mk 6 0 ⟨#[]⟩ [] [], s.toList.drop (k1 + 1))) := by show _ = _; rw [HE0.out, if_pos (by rw [← D1.out]; exact head_at.2 p93), ← D1.out, tail_at]
    have hk2 : k1 + 1 ≤ s.size := by omega
    refine (ris_yes rb s k1 (d + 1) 93 _ R1.out p93.1 hs p93.2).mono ?_; rintro e w2 ⟨rfl, h2, g2⟩
    have L2 := Lib.hid (L1.out.next g2 hrb)
    have R2 := Lib.hid h2
    clear h2 g2 p93 L1 R1 D1 HE0 HV2
    have HKS : Hid (∀ t ∈ ([] : List ByteArray), t.size ≤ maxLen) := by intro t ht; cases ht
    obtain ⟨z0, z1, z2, z3⟩ := R2.out.cells4
    have z4 := R2.out.frozen 2
    have RF : Hid (RSt (w2.setCell ⟨rb, 2, none⟩ (.int .i64 (d : Int))) rb s (k1 + 1) d 0) := by
      have := R2.out.set_ 2 (.int .i64 (d : Int))
      exact this
    have NF := Lib.hid (L2.out.node.far (p := ⟨rb, 2, none⟩) (by simp; omega) (.int .i64 (d : Int)))
    have SF := Lib.hid (L2.out.res.far (p := ⟨rb, 2, none⟩) (by simp; omega) (.int .i64 (d : Int)))
    have GF : Hid (w.grownBy (w2.setCell ⟨rb, 2, none⟩ (.int .i64 (d : Int))) (some rb)) := grown_set L2.out.grow 2 _
    have XF : Hid ((w2.setCell ⟨rb, 2, none⟩ (.int .i64 (d : Int))).heap.size = w2.heap.size ∧ ∀ g, g ≠ rb → (w2.setCell ⟨rb, 2, none⟩ (.int .i64 (d : Int))).heap[g]? = w2.heap[g]?) := ⟨by simp, fun g hg => set_far hg⟩
    go_upto_region 13 with fail
    generalize w2.setCell ⟨rb, 2, none⟩ (.int .i64 (d : Int)) = wf at *
    clear z0 z1 z2 z3 z4
    obtain ⟨n0, n1, n2, n3, n4⟩ := NF.out.cells5
    obtain ⟨z0, z1, z2, z3, z4⟩ := SF.out.cells5
    have f0 := SF.out.frozen 0
    have f1 := SF.out.frozen 1
    have f2 := SF.out.frozen 2
    have f3 := SF.out.frozen 3
    have f4 := SF.out.frozen 4
    obtain ⟨hfin, hgr, hsz, hot⟩ := laid5 SF.out GF.out (Nat.le_refl _) (.int .i64 6) (.int .i64 0) (.string ⟨#[]⟩) (.slice none 0 0) (.slice none 0 0)
    have HFIN := Lib.hid hfin; have HGR := Lib.hid hgr; have HSZ := Lib.hid hsz; have HOT := Lib.hid hot
    clear hfin hgr hsz hot
    go_wp2_with fail
    clear f0 f1 f2 f3 f4 z0 z1 z2 z3 z4 n0 n1 n2 n3 n4
    generalize (((((wf.setCell ⟨w.heap.size, 0, none⟩ (.int .i64 6)).setCell ⟨w.heap.size, 1, none⟩ (.int .i64 0)).setCell ⟨w.heap.size, 2, none⟩ (.string ⟨#[]⟩)).setCell ⟨w.heap.size, 3, none⟩ (.slice none 0 0)).setCell ⟨w.heap.size, 4, none⟩ (.slice none 0 0)) = WF at *
    obtain ⟨q0, q1, q2, q3, q4⟩ := HFIN.out.cells5
    refine bodyPost_ret (v := .agg #[.int .i64 6, .int .i64 0, .string ⟨#[]⟩, (.slice none 0 0), (.slice none 0 0)]) (by simp [results, Try.results49, go_sem, q0, q1, q2, q3, q4]) rfl ?_
    have hrf : RSt WF rb s (k1 + 1) d 0 := (HOT.out rb (by omega)).trans RF.out
    exact RVal.yes E1.out ⟨_, _, _, _, _, _, _, _, _, rfl, L2.out.node_in (by unfold I64; omega) HKS.out hrb (fun g h1 h2 => (HOT.out g h1).trans (XF.out.2 g h2)) (by rw [HSZ.out, XF.out.1])⟩ ⟨(k1 + 1), hk2, rfl, hrf, HGR.out⟩
  have E1 : Hid (V = arrL d (s.toList.drop k1) []) := by show _ = _; rw [HE0.out, if_neg (by rw [← D1.out]; exact fun e => p93 (head_at.1 e)), D1.out]
  have HS := Lib.hid (ris_no rb s k1 (d + 1) 93 _ R1.out (fun hl => by rw [beq_eq_false_iff_ne]; exact fun e => p93 ⟨hl, e⟩))
  clear p93 HE0 D1
  refine HS.out.mono ?_; rintro e w2 ⟨rfl, h2, g2⟩
  have I2 : Hid (ArrI w rb s d k V k1 0 (s.size - k1 + 1) w2) := .inl ⟨rfl, hkk1, by omega, [], none, 0, [], E1.out, by simp, L1.out.next g2 hrb⟩
  have R2 := Lib.hid h2
  clear h2 g2 L1 R1 HS E1
  go_wp2_with fail
  go_loopg [] (s.size - k1 + 1) (fun g wr => ∃ (j : Nat) (er : Int), j ≤ s.size ∧ Hid (RSt wr rb s j (d + 1) er) ∧ Hid (ArrI w rb s d k V j er g wr))
  case atStart => exact ⟨k1, 0, hk1, R2, I2⟩
  case round =>
    clear R2 I2
    obtain ⟨j, er, hj, hR, hI⟩ := hrel
    obtain ⟨wo, rfl⟩ : ∃ wo : World, wo = wr := ⟨_, rfl⟩
    obtain ⟨c0, c1, c2, c3⟩ := hR.out.cells4
    rcases hI.out with ⟨rfl, hkj, hg, ns, A, c, ys, hv, hnl, hL⟩ | ⟨he, hv, hE⟩
    case inr =>
      have E1 : Hid (V = .error er) := hv
      obtain ⟨⟨K, a, kc, A, b, c, hn⟩, hr, hgw⟩ := hE
      have NE := Lib.hid hn; have SE := Lib.hid hr; have GE := Lib.hid hgw
      have ne : (er == 0) = false := by rw [beq_eq_false_iff_ne]; exact he
      clear hn hr hgw hv hI he HV2
      obtain ⟨z0, z1, z2, z3⟩ := hR.out.cells4
      have z4 := hR.out.frozen 2
      have RF : Hid (RSt (wo.setCell ⟨rb, 2, none⟩ (.int .i64 (d : Int))) rb s j d er) := by
        have := hR.out.set_ 2 (.int .i64 (d : Int))
        exact this
      have NF := Lib.hid (NE.out.far (p := ⟨rb, 2, none⟩) (by simp; omega) (.int .i64 (d : Int)))
      have SF := Lib.hid (SE.out.far (p := ⟨rb, 2, none⟩) (by simp; omega) (.int .i64 (d : Int)))
      have GF : Hid (w.grownBy (wo.setCell ⟨rb, 2, none⟩ (.int .i64 (d : Int))) (some rb)) := grown_set GE.out 2 _
      have XF : Hid ((wo.setCell ⟨rb, 2, none⟩ (.int .i64 (d : Int))).heap.size = wo.heap.size ∧ ∀ g, g ≠ rb → (wo.setCell ⟨rb, 2, none⟩ (.int .i64 (d : Int))).heap[g]? = wo.heap[g]?) := ⟨by simp, fun g hg => set_far hg⟩
      go_upto_region 35 with fail
      generalize wo.setCell ⟨rb, 2, none⟩ (.int .i64 (d : Int)) = wf at *
      clear z0 z1 z2 z3 z4
      obtain ⟨n0, n1, n2, n3, n4⟩ := NF.out.cells5
      obtain ⟨z0, z1, z2, z3, z4⟩ := SF.out.cells5
      have f0 := SF.out.frozen 0
      have f1 := SF.out.frozen 1
      have f2 := SF.out.frozen 2
      have f3 := SF.out.frozen 3
      have f4 := SF.out.frozen 4
      obtain ⟨hfin, hgr, hsz, hot⟩ := laid5 SF.out GF.out (Nat.le_refl _) (.int .i64 6) (.int .i64 0) (.string ⟨#[]⟩) (.slice K a kc) (.slice A b c)
      have HFIN := Lib.hid hfin; have HGR := Lib.hid hgr; have HSZ := Lib.hid hsz; have HOT := Lib.hid hot
      clear hfin hgr hsz hot
      go_wp2_with fail
      clear f0 f1 f2 f3 f4 z0 z1 z2 z3 z4 n0 n1 n2 n3 n4
      generalize (((((wf.setCell ⟨w.heap.size, 0, none⟩ (.int .i64 6)).setCell ⟨w.heap.size, 1, none⟩ (.int .i64 0)).setCell ⟨w.heap.size, 2, none⟩ (.string ⟨#[]⟩)).setCell ⟨w.heap.size, 3, none⟩ (.slice K a kc)).setCell ⟨w.heap.size, 4, none⟩ (.slice A b c)) = WF at *
      obtain ⟨q0, q1, q2, q3, q4⟩ := HFIN.out.cells5
      refine bodyPost_ret (v := .agg #[.int .i64 6, .int .i64 0, .string ⟨#[]⟩, (.slice K a kc), (.slice A b c)]) (by simp [results, Try.results49, go_sem, q0, q1, q2, q3, q4]) rfl ?_
      have hrf : RSt WF rb s j d er := (HOT.out rb (by omega)).trans RF.out
      exact RVal.no E1.out ⟨_, _, _, _, _, _, _, _, _, rfl⟩ ⟨j, hj, hrf, HGR.out⟩
    have hv2 : Hid (V = match valL (d + 1) (blanksL (s.toList.drop j)) with
      | .error e => .error e
      | .ok (n, r) => if (blanksL r).head? = some 93 then .ok (.mk 6 0 ⟨#[]⟩ [] (ns ++ [n]), (blanksL r).tail)
        else if (blanksL r).head? = some 44 then arrL d (blanksL r).tail (ns ++ [n]) else .error 3) := by show _ = _; rw [hv, arrL_eq] <;> rfl
    have hL2 := Lib.hid hL
    have hR2 := hR
    have hnl6 : ns.length ≤ 1000000 := by omega
    clear hv hL hI
    go_upto_region 29 with fail
    cases hq : valL (d + 1) (blanksL (s.toList.drop j)) with
    | error ce =>
      have hce : 3 ≤ ce ∧ ce ≤ 5 := (val_err _).1 (d + 1) _ _ (Nat.le_refl _) hq
      have E1 : Hid (V = .error ce) := by show _ = _; rw [hv2.out, hq]
      have hce0 : ce ≠ 0 := by omega
      have HC : Hid (Calls Try.prog 27 #[.pointer (some ⟨rb, 0, none⟩)] wo.drew (fun e w' => RAny e ∧ RBad rb s (d + 1) ce wo.drew w')) := by
        have := HV2.out j wo.drew (by omega) hj hR2.out.drew
        unfold VCall at this
        rw [hq] at this
        exact this
      clear hq hv2 hce
      have LD : Hid (LInv w rb 6 [] ns wo.drew none 0 A c ys) := hL2.out.next (grown_drew (grown_refl _ _)) hrb
      have ldc := LD.out.node.cell 4
      go_cut [] (fun wx => ∃ k5 : Nat, k5 ≤ s.size ∧ Hid (RSt wx rb s k5 (d + 1) ce) ∧ Hid (EInv w rb 6 wx))
      case first =>
        go_region_law (first
          | (go_simp; go_at_call 27; refine HC.out.mono ?_; rintro e w1 ⟨⟨c0', c1', c2', c3', c4', c5', c6', c7', c8', rfl⟩, k5, hk5, h5, g5⟩; have LB := Lib.hid (LD.out.next g5 hrb); have LA : Hid (LInv w rb 6 [] ns (w1.alloc (.cells #[.int .i64 c0', .int .i64 c1', .string c2', .slice c3' c4' c5', .slice c6' c7' c8'] 27)) none 0 A c ys) := LB.out.next (grown_alloc (grown_refl _ _) _) hrb; have R5 : Hid (RSt (w1.alloc (.cells #[.int .i64 c0', .int .i64 c1', .string c2', .slice c3' c4' c5', .slice c6' c7' c8'] 27)) rb s k5 (d + 1) ce) := h5.alloc _; have lac := LA.out.node.cell 4; have lbc := LB.out.node.cell 4; clear h5 g5)
          | (refine step_pushNd rfl _ _ rfl (w.heap.size + 2) (.slice A ns.length c) ns.length ys (by rfl) LA.out.own (w1.heap.size + 1) (some ⟨w1.heap.size, 0, none⟩) 1 [.int .i64 c0', .int .i64 c1', .string c2', .slice c3' c4' c5', .slice c6' c7' c8'] (by rfl) (cells_reads (Blk.new w1 _ _) rfl) cells_one (by omega) LA.out.size ?_; intro v5 w5 p1 p2 p3; obtain ⟨g, cp, rfl, hg1, hg2⟩ := World.ownsRow.form p1 (by omega); have EP := Lib.hid (EInv.push LA.out hrb (g := g) (c3 := cp) p2); have n5 := LA.out.node.grown p2 (fun e => by have := (own_lt LA.out.own e.symm).1; omega); have l5c := n5.cell 4; have l5f := n5.frozen 4; clear n5 p1 p2 p3))
        all_goals
          go_wp2_with fail
          go_meet
          exact ⟨k5, hk5, (EP.out.2 rb (by omega) (by omega)).trans R5.out, EP.out.1⟩
      case rest =>
        obtain ⟨k5, hk5, h5, hE5⟩ := hcut
        have he5 : (ce == 0) = false := by rw [beq_eq_false_iff_ne]; exact hce0
        obtain ⟨wo, rfl⟩ : ∃ wo : World, wo = wc := ⟨_, rfl⟩
        clear LD ldc HC
        go_wp2_with fail
        refine (rblanks_any rb s k5 (d + 1) ce _ h5.out hk5 hs).mono ?_; rintro e w6 ⟨rfl, k6, hk6, hd6, h6, g6⟩
        have R6 := Lib.hid h6
        have E6 := Lib.hid (hE5.out.next g6 hrb)
        clear h6 g6 hd6
        go_wp2_with fail
        refine (ris_err rb s k6 (d + 1) 93 ce he5 _ R6.out).mono ?_; rintro e w7 ⟨rfl, h7, g7⟩
        have R7 := Lib.hid h7
        have E7 := Lib.hid (E6.out.next g7 hrb)
        clear h7 g7
        go_wp2_with fail
        refine (ris_err rb s k6 (d + 1) 44 ce he5 _ R7.out).mono ?_; rintro e w8 ⟨rfl, h8, g8⟩
        have R8 := Lib.hid h8
        have E8 := Lib.hid (E7.out.next g8 hrb)
        clear h8 g8
        go_wp2_with fail
        refine (rfail_no rb s k6 (d + 1) ce 3 he5 _ R8.out).mono ?_; rintro e w9 ⟨rfl, h9, g9⟩
        have R9 := Lib.hid h9
        have E9 := Lib.hid (E8.out.next g9 hrb)
        clear h9 g9
        go_wp2_with fail
        go_roundg (gk - 1)
        case measure => omega
        case rel => exact ⟨k6, ce, hk6, R9, .inr ⟨hce0, E1.out, E9.out⟩⟩
    | ok p =>
      obtain ⟨n, l⟩ := p
      have HLT : Hid (∀ k5 : Nat, k5 ≤ s.size → s.toList.drop k5 = l → j < k5) := fun k5 h1 h2 => later_at hq h2 h1 hj
      have hv3 : Hid (V = if (blanksL l).head? = some 93 then .ok (.mk 6 0 ⟨#[]⟩ [] (ns ++ [n]), (blanksL l).tail) else if (blanksL l).head? = some 44 then arrL d (blanksL l).tail (ns ++ [n]) else .error 3) := by show _ = _; rw [hv2.out, hq]
      have HC : Hid (Calls Try.prog 27 #[.pointer (some ⟨rb, 0, none⟩)] wo.drew (fun e w' => RNode n wo.drew w' e ∧ RTo rb s (d + 1) l wo.drew w')) := by
        have := HV2.out j wo.drew (by omega) hj hR2.out.drew
        unfold VCall at this
        rw [hq] at this
        exact this
      have LD : Hid (LInv w rb 6 [] ns wo.drew none 0 A c ys) := hL2.out.next (grown_drew (grown_refl _ _)) hrb
      have ldc := LD.out.node.cell 4
      clear hq hv2
      go_cut [] (fun wx => ∃ (k5 : Nat) (A5 : Option Addr) (c5 : Nat) (ys5 : List Value), k5 ≤ s.size ∧ Hid (s.toList.drop k5 = l) ∧ Hid (RSt wx rb s k5 (d + 1) 0) ∧ Hid (LInv w rb 6 [] (ns ++ [n]) wx none 0 A5 c5 ys5))
      case first =>
        go_region_law (first
          | (go_simp; go_at_call 27; refine HC.out.mono ?_; rintro e w1 ⟨⟨c0', c1', c2', c3', c4', c5', c6', c7', c8', rfl, hn1⟩, k5, hk5, hd5, h5, g5⟩; have LB := Lib.hid (LD.out.next g5 hrb); have LA : Hid (LInv w rb 6 [] ns (w1.alloc (.cells #[.int .i64 c0', .int .i64 c1', .string c2', .slice c3' c4' c5', .slice c6' c7' c8'] 27)) none 0 A c ys) := LB.out.next (grown_alloc (grown_refl _ _) _) hrb; have R5 : Hid (RSt (w1.alloc (.cells #[.int .i64 c0', .int .i64 c1', .string c2', .slice c3' c4' c5', .slice c6' c7' c8'] 27)) rb s k5 (d + 1) 0) := h5.alloc _; have N1 : Hid (NdIn (w1.alloc (.cells #[.int .i64 c0', .int .i64 c1', .string c2', .slice c3' c4' c5', .slice c6' c7' c8'] 27)) (fun b => wo.heap.size ≤ b ∧ b < (w1.alloc (.cells #[.int .i64 c0', .int .i64 c1', .string c2', .slice c3' c4' c5', .slice c6' c7' c8'] 27)).heap.size) n [.int .i64 c0', .int .i64 c1', .string c2', .slice c3' c4' c5', .slice c6' c7' c8']) := NdIn.keep (fun p hp => World.cell?_alloc_lt _ _ _ hp.2) (fun b hb => ⟨hb.1, by have := hb.2; simp; omega⟩) _ _ hn1; have D5 := Lib.hid hd5; have lac := LA.out.node.cell 4; have lbc := LB.out.node.cell 4; clear h5 g5 hd5 hn1)
          | (refine step_pushNd rfl _ _ rfl (w.heap.size + 2) (.slice A ns.length c) ns.length ys (by rfl) LA.out.own (w1.heap.size + 1) (some ⟨w1.heap.size, 0, none⟩) 1 [.int .i64 c0', .int .i64 c1', .string c2', .slice c3' c4' c5', .slice c6' c7' c8'] (by rfl) (cells_reads (Blk.new w1 _ _) rfl) cells_one (by omega) LA.out.size ?_; intro v5 w5 p1 p2 p3; obtain ⟨g, cp, rfl, hg1, hg2⟩ := World.ownsRow.form p1 (by omega); have LP := Lib.hid (LInv.push LA.out hrb (W := wo.heap.size) (fun g hg => (own_lt hL2.out.own hg).2) (fun g hg => (own_lt hL2.out.keys hg).2) hL2.out.size N1.out p1 hg1 p2 p3); have n5 := LA.out.node.grown p2 (fun e => by have := (own_lt LA.out.own e.symm).1; omega); have l5c := n5.cell 4; have l5f := n5.frozen 4; clear n5 p1 p2 p3))
        all_goals
          go_wp2_with fail
          go_meet
          exact ⟨k5, _, _, _, hk5, D5, (LP.out.2 rb (by omega) (by omega)).trans R5.out, LP.out.1⟩
      case rest =>
        obtain ⟨k5, A5, c5, ys5, hk5, hd5, h5, hL5⟩ := hcut
        have hj5 := HLT.out k5 hk5 hd5.out
        obtain ⟨ms, hms⟩ : ∃ ms, ms = ns ++ [n] := ⟨_, rfl⟩
        rw [← hms] at hv3 hL5
        have HMS : Hid (ms.length = ns.length + 1) := by show _ = _; rw [hms]; simp
        clear hms
        obtain ⟨wo, rfl⟩ : ∃ wo : World, wo = wc := ⟨_, rfl⟩
        clear LD ldc HC HLT hL2 hR2
        go_wp2_with fail
        refine (rblanks_any rb s k5 (d + 1) 0 _ h5.out hk5 hs).mono ?_; rintro e w6 ⟨rfl, k6, hk6, hd6, h6, g6⟩
        have hk56 := blanks_at hd6 hk6 hk5
        rw [hd5.out] at hd6
        have R6 := Lib.hid h6
        have L6 := Lib.hid (hL5.out.next g6 hrb)
        have D6 := Lib.hid hd6
        clear h6 g6 hd6
        go_wp2_with fail
        by_cases p93 : k6 < s.size ∧ bt s k6 = 93
        · have E1 : Hid (V = .ok (.mk 6 0 ⟨#[]⟩ [] ms, s.toList.drop (k6 + 1))) := by show _ = _; rw [hv3.out, if_pos (by rw [← D6.out]; exact head_at.2 p93), ← D6.out, tail_at]
          have hk7 : k6 + 1 ≤ s.size := by omega
          refine (ris_yes rb s k6 (d + 1) 93 _ R6.out p93.1 hs p93.2).mono ?_; rintro e w7 ⟨rfl, h7, g7⟩
          have L7 := Lib.hid (L6.out.next g7 hrb)
          have R7 := Lib.hid h7
          clear h7 g7 p93 L6 R6 D6 hv3 HV2 hd5 h5 hL5 c0 c1 c2 c3
          have HKS : Hid (∀ t ∈ ([] : List ByteArray), t.size ≤ maxLen) := by intro t ht; cases ht
          obtain ⟨z0, z1, z2, z3⟩ := R7.out.cells4
          have z4 := R7.out.frozen 2
          have RF : Hid (RSt (w7.setCell ⟨rb, 2, none⟩ (.int .i64 (d : Int))) rb s (k6 + 1) d 0) := by
            have := R7.out.set_ 2 (.int .i64 (d : Int))
            exact this
          have NF := Lib.hid (L7.out.node.far (p := ⟨rb, 2, none⟩) (by simp; omega) (.int .i64 (d : Int)))
          have SF := Lib.hid (L7.out.res.far (p := ⟨rb, 2, none⟩) (by simp; omega) (.int .i64 (d : Int)))
          have GF : Hid (w.grownBy (w7.setCell ⟨rb, 2, none⟩ (.int .i64 (d : Int))) (some rb)) := grown_set L7.out.grow 2 _
          have XF : Hid ((w7.setCell ⟨rb, 2, none⟩ (.int .i64 (d : Int))).heap.size = w7.heap.size ∧ ∀ g, g ≠ rb → (w7.setCell ⟨rb, 2, none⟩ (.int .i64 (d : Int))).heap[g]? = w7.heap[g]?) := ⟨by simp, fun g hg => set_far hg⟩
          go_upto_region 35 with fail
          generalize w7.setCell ⟨rb, 2, none⟩ (.int .i64 (d : Int)) = wf at *
          clear z0 z1 z2 z3 z4
          obtain ⟨n0, n1, n2, n3, n4⟩ := NF.out.cells5
          obtain ⟨z0, z1, z2, z3, z4⟩ := SF.out.cells5
          have f0 := SF.out.frozen 0
          have f1 := SF.out.frozen 1
          have f2 := SF.out.frozen 2
          have f3 := SF.out.frozen 3
          have f4 := SF.out.frozen 4
          obtain ⟨hfin, hgr, hsz, hot⟩ := laid5 SF.out GF.out (Nat.le_refl _) (.int .i64 6) (.int .i64 0) (.string ⟨#[]⟩) (.slice none 0 0) (.slice A5 ms.length c5)
          have HFIN := Lib.hid hfin; have HGR := Lib.hid hgr; have HSZ := Lib.hid hsz; have HOT := Lib.hid hot
          clear hfin hgr hsz hot
          go_wp2_with fail
          clear f0 f1 f2 f3 f4 z0 z1 z2 z3 z4 n0 n1 n2 n3 n4
          generalize (((((wf.setCell ⟨w.heap.size, 0, none⟩ (.int .i64 6)).setCell ⟨w.heap.size, 1, none⟩ (.int .i64 0)).setCell ⟨w.heap.size, 2, none⟩ (.string ⟨#[]⟩)).setCell ⟨w.heap.size, 3, none⟩ (.slice none 0 0)).setCell ⟨w.heap.size, 4, none⟩ (.slice A5 ms.length c5)) = WF at *
          obtain ⟨q0, q1, q2, q3, q4⟩ := HFIN.out.cells5
          refine bodyPost_ret (v := .agg #[.int .i64 6, .int .i64 0, .string ⟨#[]⟩, (.slice none 0 0), (.slice A5 ms.length c5)]) (by simp [results, Try.results49, go_sem, q0, q1, q2, q3, q4]) rfl ?_
          have hrf : RSt WF rb s (k6 + 1) d 0 := (HOT.out rb (by omega)).trans RF.out
          exact RVal.yes E1.out ⟨_, _, _, _, _, _, _, _, _, rfl, L7.out.node_in (by unfold I64; omega) HKS.out hrb (fun g h1 h2 => (HOT.out g h1).trans (XF.out.2 g h2)) (by rw [HSZ.out, XF.out.1])⟩ ⟨(k6 + 1), hk7, rfl, hrf, HGR.out⟩
        have hv4 : Hid (V = if (blanksL l).head? = some 44 then arrL d (blanksL l).tail ms else .error 3) := by show _ = _; rw [hv3.out, if_neg (by rw [← D6.out]; exact fun e => p93 (head_at.1 e))]
        have HS7 := Lib.hid (ris_no rb s k6 (d + 1) 93 _ R6.out (fun hl => by rw [beq_eq_false_iff_ne]; exact fun e => p93 ⟨hl, e⟩))
        clear p93 hv3 hd5 h5 hL5
        refine HS7.out.mono ?_; rintro e w7 ⟨rfl, h7, g7⟩
        have L7 := Lib.hid (L6.out.next g7 hrb)
        have R7 := Lib.hid h7
        clear h7 g7 L6 R6 HS7
        go_wp2_with fail
        by_cases p44 : k6 < s.size ∧ bt s k6 = 44
        · have E1 : Hid (V = arrL d (s.toList.drop (k6 + 1)) ms) := by show _ = _; rw [hv4.out, if_pos (by rw [← D6.out]; exact head_at.2 p44), ← D6.out, tail_at]
          have hk8 : k6 + 1 ≤ s.size := by omega
          refine (ris_yes rb s k6 (d + 1) 44 _ R7.out p44.1 hs p44.2).mono ?_; rintro e w8 ⟨rfl, h8, g8⟩
          have L8 := Lib.hid (L7.out.next g8 hrb)
          have R8 := Lib.hid h8
          clear h8 g8 p44
          go_wp2_with fail
          go_roundg (gk - 1)
          case measure => omega
          case rel => exact ⟨k6 + 1, 0, hk8, R8, .inl ⟨rfl, by omega, by omega, ms, _, _, _, E1.out, by have := HMS.out; omega, L8.out⟩⟩
        · have E1 : Hid (V = .error 3) := by show _ = _; rw [hv4.out, if_neg (by rw [← D6.out]; exact fun e => p44 (head_at.1 e))]
          have HS8 := Lib.hid (ris_no rb s k6 (d + 1) 44 _ R7.out (fun hl => by rw [beq_eq_false_iff_ne]; exact fun e => p44 ⟨hl, e⟩))
          clear p44
          refine HS8.out.mono ?_; rintro e w8 ⟨rfl, h8, g8⟩
          have L8 := Lib.hid (L7.out.next g8 hrb)
          have R8 := Lib.hid h8
          clear h8 g8
          go_wp2_with fail
          refine (rfail_0 rb s k6 (d + 1) 3 _ R8.out).mono ?_; rintro e w9 ⟨rfl, h9, g9⟩
          have L9 := Lib.hid (L8.out.next g9 hrb)
          have R9 := Lib.hid h9
          clear h9 g9
          go_wp2_with fail
          go_roundg (gk - 1)
          case measure => omega
          case rel => exact ⟨k6, 3, hk6, R9, .inr ⟨by omega, E1.out, L9.out.bad⟩⟩
end Go.Proofs.Ytnhoecmcbikcnaa
/-! The reference's reader: what stands ahead of its objects. -/
namespace Go.Proofs.Ytnhoecmcbikcnaa
open Go.RowKit Go.PlainAid
set_option linter.unusedVariables false
set_option linter.unusedSimpArgs false
theorem rvalue_err (rb : Nat) (s : ByteArray) (k d : Nat) (er : Int) (w : World) (h : RSt w rb s k d er) (hk : k ≤ s.size) (hs : s.size ≤ 1000000) (he : (er == 0) = false) :
    Calls Try.prog 27 #[.pointer (some ⟨rb, 0, none⟩)] w (fun e w' => RAny e ∧ RBad rb s d er w w') := by
  have hrb := h.lt
  have R0 : Hid (RSt (w.alloc (.cells #[.int .i64 0, .int .i64 0, .string ⟨#[]⟩, .slice none 0 0, .slice none 0 0] 27)) rb s k d er) := h.alloc _
  have Y0 : Hid (Blk (w.alloc (.cells #[.int .i64 0, .int .i64 0, .string ⟨#[]⟩, .slice none 0 0, .slice none 0 0] 27)) w.heap.size 27 #[.int .i64 0, .int .i64 0, .string ⟨#[]⟩, .slice none 0 0, .slice none 0 0]) := Blk.new w _ _
  have G0 : Hid (w.grownBy (w.alloc (.cells #[.int .i64 0, .int .i64 0, .string ⟨#[]⟩, .slice none 0 0, .slice none 0 0] 27)) (some rb)) := World.grownBy_alloc w _ _
  have ne1 : (er != 0) = true := by rw [bne, he]; rfl
  clear h
  go_enter Try.func27, Try.ntmps27
  go_wp2_with fail
  refine (rblanks_any rb s k d er _ R0.out hk hs).mono ?_; rintro e w1 ⟨rfl, k1, hk1, hd1, h1, g1⟩
  have R1 := Lib.hid h1
  have Y1 := Lib.hid (Y0.out.grown g1 (by intro e; injection e with e; omega))
  have G1 := Lib.hid (G0.out.trans g1)
  obtain ⟨c0, c1, c2, c3⟩ := h1.cells4
  clear h1 g1 hd1 R0 Y0 G0
  have R2 : Hid (∀ n, RSt (w1.drewN n) rb s k1 d er) := fun n => R1.out
  have Y2 : Hid (∀ n, Blk (w1.drewN n) w.heap.size 27 #[.int .i64 0, .int .i64 0, .string ⟨#[]⟩, .slice none 0 0, .slice none 0 0]) := fun n => Y1.out
  have G2 : Hid (∀ n, w.grownBy (w1.drewN n) (some rb)) := fun n => grown_drewN G1.out _
  go_wp2_with fail
  go_quiet (fail)
  go_wp2_with fail
  refine (rfail_no rb s k1 d er 3 he _ (R2.out _)).mono ?_; rintro e w9 ⟨rfl, h9, g9⟩
  have R9 := Lib.hid h9
  have Y9 := Lib.hid ((Y2.out _).grown g9 (by intro e; injection e with e; omega))
  have G9 := Lib.hid ((G2.out _).trans g9)
  obtain ⟨wf, rfl⟩ : ∃ wf : World, wf = w9 := ⟨_, rfl⟩
  clear h9 g9 c0 c1 c2 c3
  obtain ⟨z0, z1, z2, z3, z4⟩ := Y9.out.cells5
  have f0 := Y9.out.frozen 0
  have f1 := Y9.out.frozen 1
  have f2 := Y9.out.frozen 2
  have f3 := Y9.out.frozen 3
  have f4 := Y9.out.frozen 4
  obtain ⟨hfin, hgr, hsz, hot⟩ := laid5 Y9.out G9.out (Nat.le_refl _) (.int .i64 0) (.int .i64 0) (.string ⟨#[]⟩) (.slice none 0 0) (.slice none 0 0)
  have HFIN := Lib.hid hfin; have HGR := Lib.hid hgr; have HSZ := Lib.hid hsz; have HOT := Lib.hid hot
  clear hfin hgr hsz hot
  go_wp2_with fail
  clear f0 f1 f2 f3 f4 z0 z1 z2 z3 z4
  generalize (((((wf.setCell ⟨w.heap.size, 0, none⟩ (.int .i64 0)).setCell ⟨w.heap.size, 1, none⟩ (.int .i64 0)).setCell ⟨w.heap.size, 2, none⟩ (.string ⟨#[]⟩)).setCell ⟨w.heap.size, 3, none⟩ (.slice none 0 0)).setCell ⟨w.heap.size, 4, none⟩ (.slice none 0 0)) = WF at *
  obtain ⟨q0, q1, q2, q3, q4⟩ := HFIN.out.cells5
  refine bodyPost_ret (v := .agg #[.int .i64 0, .int .i64 0, .string ⟨#[]⟩, .slice none 0 0, .slice none 0 0]) (by simp [results, Try.results27, go_sem, q0, q1, q2, q3, q4]) rfl ?_
  exact ⟨⟨_, _, _, _, _, _, _, _, _, rfl⟩, k1, hk1, (HOT.out rb (by omega)).trans R9.out, HGR.out⟩
/-- is a key there already, among the first so many -/
theorem any_no {ks : List ByteArray} {t : List UInt8} (h : ∀ (j : Nat) (s : ByteArray), ks[j]? = some s → (s.toList == t) = false) : ks.any (fun s => s.toList == t) = false := by
  rw [List.any_eq_false]
  intro x hx
  obtain ⟨j, hj⟩ := List.mem_iff_getElem?.1 hx
  rw [h j x hj]; simp
theorem any_yes {ks : List ByteArray} {t : List UInt8} {j : Nat} {s : ByteArray} (h : ks[j]? = some s) (he : (s.toList == t) = true) : ks.any (fun s => s.toList == t) = true := by
  rw [List.any_eq_true]
  exact ⟨s, List.mem_of_getElem? h, he⟩
/-- how the key stands: still good, or an error -/
def KeyI (s : ByteArray) (d : Nat) (V : Except Int (Nd × List UInt8)) (ks : List ByteArray) (ns : List Nd) (t : ByteArray) (k4 : Nat) (er : Int) (i : Nat) : Prop :=
  (er = 0 ∧ (∀ j x, j < i → ks[j]? = some x → (x.toList == t.toList) = false) ∧ V = if ks.any (fun x => x.toList == t.toList) = true then .error 5
      else if (blanksL (s.toList.drop k4)).head? = some 58 then
        (match valL (d + 1) (blanksL (blanksL (s.toList.drop k4)).tail) with
        | .error e => .error e
        | .ok (n, r2) => if (blanksL r2).head? = some 125 then .ok (.mk 7 0 ⟨#[]⟩ (ks ++ [t]) (ns ++ [n]), (blanksL r2).tail)
          else if (blanksL r2).head? = some 44 then objL d (blanksL r2).tail (ks ++ [t]) (ns ++ [n]) else .error 3)
      else .error 3) ∨ (er ≠ 0 ∧ V = .error er)
theorem keyI_start {s : ByteArray} {d : Nat} {V : Except Int (Nd × List UInt8)} {ks : List ByteArray} {ns : List Nd} {l b r : List UInt8} {k4 : Nat} (hV : V = objL d l ks ns) (ht : textL (blanksL l) = some (b, r)) (hd : s.toList.drop k4 = r) : KeyI s d V ks ns ⟨b.toArray⟩ k4 0 0 := by
  refine .inl ⟨rfl, fun j x hj => absurd hj (by omega), ?_⟩
  rw [hV, objL_eq, ht, hd, lit_toList]
  rfl
/-- the key is done -/
def KeyJ (s : ByteArray) (d : Nat) (V : Except Int (Nd × List UInt8)) (ks : List ByteArray) (ns : List Nd) (k4 : Nat) (er : Int) : Prop :=
  (er = 0 ∧ V = if (blanksL (s.toList.drop k4)).head? = some 58 then
        (match valL (d + 1) (blanksL (blanksL (s.toList.drop k4)).tail) with
        | .error e => .error e
        | .ok (n, r2) => if (blanksL r2).head? = some 125 then .ok (.mk 7 0 ⟨#[]⟩ ks (ns ++ [n]), (blanksL r2).tail)
          else if (blanksL r2).head? = some 44 then objL d (blanksL r2).tail ks (ns ++ [n]) else .error 3)
      else .error 3) ∨ (er ≠ 0 ∧ V = .error er)
theorem KeyI.done {s : ByteArray} {d : Nat} {V : Except Int (Nd × List UInt8)} {ks : List ByteArray} {ns : List Nd} {t : ByteArray} {k4 : Nat} {er : Int} {i : Nat} (h : KeyI s d V ks ns t k4 er i) (hb : er = 0 → ks.length ≤ i) : KeyJ s d V (ks ++ [t]) ns k4 er := by
  rcases h with ⟨h1, h2, h3⟩ | h
  · refine .inl ⟨h1, ?_⟩
    rw [h3, if_neg (by rw [any_no (fun j x hj => h2 j x (by have := (List.getElem?_eq_some_iff.1 hj).1; have := hb h1; omega) hj)]; simp)]
  · exact .inr h
theorem textL_no {l : List UInt8} (h : l.head? ≠ some 34) : textL l = none := by unfold textL; rw [if_neg h]
theorem textL_at {s : ByteArray} {k3 : Nat} {l : List UInt8} (hd : s.toList.drop k3 = l) (h : k3 < s.size ∧ bt s k3 = 34) : textL l = textT (s.toList.drop (k3 + 1)) [] := by
  unfold textL
  rw [if_pos (by rw [← hd]; exact head_at.2 h), ← hd, tail_at]
theorem rfail_gen (rb : Nat) (s : ByteArray) (k d : Nat) (e0 c : Int) (w : World) (h : RSt w rb s k d e0) : Calls Try.prog 29 #[.pointer (some ⟨rb, 0, none⟩), .int .i64 c] w fun e w' => e = .returned (.tuple #[]) ∧ RSt w' rb s k d (if e0 = 0 then c else e0) ∧ w.grownBy w' (some rb) := by
  by_cases h0 : e0 = 0
  · subst h0; rw [if_pos rfl]; exact rfail_0 rb s k d c w h
  · rw [if_neg h0]; exact rfail_no rb s k d e0 c (by rw [beq_eq_false_iff_ne]; exact h0) w h
theorem key_size {s : ByteArray} {j : Nat} {b r : List UInt8} (ht : textL (blanksL (s.toList.drop j)) = some (b, r)) (hs : s.size ≤ 1000000) : b.length ≤ 4000000 := by
  have h1 := (textL_ok ht).2
  have h3 := quote_ge b
  have h2 := blanksL_le (s.toList.drop j)
  rw [len_drop] at h2
  omega

end Go.Proofs.Ytnhoecmcbikcnaa
/-! The reference's reader: objects. -/
namespace Go.Proofs.Ytnhoecmcbikcnaa
open Go.RowKit Go.PlainAid
set_option linter.unusedVariables false
set_option linter.unusedSimpArgs false
set_option maxRecDepth 100000 in
set_option maxHeartbeats 8000000 in
theorem rlistO_any (rb : Nat) (s : ByteArray) (k d : Nat) (w : World) (h : RSt w rb s k d 0) (hk : k ≤ s.size) (hs : s.size ≤ 1000000)
    (HV : Hid (d < 24 → ∀ k' w', k ≤ k' → k' ≤ s.size → RSt w' rb s k' (d + 1) 0 → VCall rb s (d + 1) k' w')) :
    Calls Try.prog 49 #[.pointer (some ⟨rb, 0, none⟩), .bool true] w (RVal rb s d (listO d (s.toList.drop k)) w) := by
  obtain ⟨V, hV⟩ : ∃ V, V = listO d (s.toList.drop k) := ⟨_, rfl⟩
  rw [← hV]
  have hrb := h.lt
  have hb := get_bt s
  obtain ⟨c0, c1, c2, c3⟩ := h.cells4
  have f2 := h.frozen 2
  by_cases hdd : 24 ≤ d
  · have E1 : Hid (V = .error 4) := by show _ = _; rw [hV]; unfold listO; rw [if_pos hdd]
    have ddI : (24 : Int) ≤ (d : Int) := by omega
    have R0 : Hid (RSt ((w.alloc (.cells #[.int .i64 0, .int .i64 0, .string ⟨#[]⟩, .slice none 0 0, .slice none 0 0] 27)).alloc (.cells #[.int .i64 7, .int .i64 0, .string ⟨#[]⟩, .slice none 0 0, .slice none 0 0] 27)) rb s k d 0) := (h.alloc _).alloc _
    have S0 : Hid (Blk ((w.alloc (.cells #[.int .i64 0, .int .i64 0, .string ⟨#[]⟩, .slice none 0 0, .slice none 0 0] 27)).alloc (.cells #[.int .i64 7, .int .i64 0, .string ⟨#[]⟩, .slice none 0 0, .slice none 0 0] 27)) w.heap.size 27 #[.int .i64 0, .int .i64 0, .string ⟨#[]⟩, .slice none 0 0, .slice none 0 0]) := (Blk.new w _ _).alloc _
    have N0 : Hid (Blk ((w.alloc (.cells #[.int .i64 0, .int .i64 0, .string ⟨#[]⟩, .slice none 0 0, .slice none 0 0] 27)).alloc (.cells #[.int .i64 7, .int .i64 0, .string ⟨#[]⟩, .slice none 0 0, .slice none 0 0] 27)) (w.heap.size + 1) 27 #[.int .i64 7, .int .i64 0, .string ⟨#[]⟩, .slice none 0 0, .slice none 0 0]) := by
      have := Blk.new (w.alloc (.cells #[.int .i64 0, .int .i64 0, .string ⟨#[]⟩, .slice none 0 0, .slice none 0 0] 27)) 27 #[.int .i64 7, .int .i64 0, .string ⟨#[]⟩, .slice none 0 0, .slice none 0 0]
      show Blk _ _ _ _
      simpa using this
    have G0 : Hid (w.grownBy ((w.alloc (.cells #[.int .i64 0, .int .i64 0, .string ⟨#[]⟩, .slice none 0 0, .slice none 0 0] 27)).alloc (.cells #[.int .i64 7, .int .i64 0, .string ⟨#[]⟩, .slice none 0 0, .slice none 0 0] 27)) (some rb)) := grown_alloc (grown_alloc (grown_refl _ _) _) _
    clear hV h HV
    go_enter Try.func49, Try.ntmps49
    go_wp2_with fail
    refine (rfail_0 rb s k d 4 _ R0.out).mono ?_; rintro e w1 ⟨rfl, h1, g1⟩
    have RF := Lib.hid h1
    have NF := Lib.hid (N0.out.grown g1 (by intro e; injection e with e; omega))
    have SF := Lib.hid (S0.out.grown g1 (by intro e; injection e with e; omega))
    have GF := Lib.hid (G0.out.trans g1)
    obtain ⟨wf, rfl⟩ : ∃ wf : World, wf = w1 := ⟨_, rfl⟩
    clear h1 g1 R0 S0 N0 G0
    obtain ⟨n0, n1, n2, n3, n4⟩ := NF.out.cells5
    obtain ⟨z0, z1, z2, z3, z4⟩ := SF.out.cells5
    have f0 := SF.out.frozen 0
    have f1 := SF.out.frozen 1
    have f2 := SF.out.frozen 2
    have f3 := SF.out.frozen 3
    have f4 := SF.out.frozen 4
    obtain ⟨hfin, hgr, hsz, hot⟩ := laid5 SF.out GF.out (Nat.le_refl _) (.int .i64 7) (.int .i64 0) (.string ⟨#[]⟩) (.slice none 0 0) (.slice none 0 0)
    have HFIN := Lib.hid hfin; have HGR := Lib.hid hgr; have HSZ := Lib.hid hsz; have HOT := Lib.hid hot
    clear hfin hgr hsz hot
    go_wp2_with fail
    clear f0 f1 f2 f3 f4 z0 z1 z2 z3 z4 n0 n1 n2 n3 n4
    generalize (((((wf.setCell ⟨w.heap.size, 0, none⟩ (.int .i64 7)).setCell ⟨w.heap.size, 1, none⟩ (.int .i64 0)).setCell ⟨w.heap.size, 2, none⟩ (.string ⟨#[]⟩)).setCell ⟨w.heap.size, 3, none⟩ (.slice none 0 0)).setCell ⟨w.heap.size, 4, none⟩ (.slice none 0 0)) = WF at *
    obtain ⟨q0, q1, q2, q3, q4⟩ := HFIN.out.cells5
    refine bodyPost_ret (v := .agg #[.int .i64 7, .int .i64 0, .string ⟨#[]⟩, .slice none 0 0, .slice none 0 0]) (by simp [results, Try.results49, go_sem, q0, q1, q2, q3, q4]) rfl ?_
    exact RVal.no E1.out ⟨_, _, _, _, _, _, _, _, _, rfl⟩ ⟨k, hk, (HOT.out rb (by omega)).trans RF.out, HGR.out⟩
  have HV2 : Hid (∀ k' w', k ≤ k' → k' ≤ s.size → RSt w' rb s k' (d + 1) 0 → VCall rb s (d + 1) k' w') := HV.out (by omega)
  have hdI : (d : Int) < 24 := by omega
  have hdN : d < 24 := by omega
  have HE0 : Hid (V = if (blanksL (s.toList.drop k)).head? = some 125 then .ok (.mk 7 0 ⟨#[]⟩ [] [], (blanksL (s.toList.drop k)).tail) else objL d (blanksL (s.toList.drop k)) [] []) := by show _ = _; rw [hV]; unfold listO; rw [if_neg hdd]
  have L0 := Lib.hid (LInv.start w rb 7 (.int .i64 ((d : Int) + 1)) hrb)
  have R0 : Hid (RSt (((w.setCell ⟨rb, 2, none⟩ (.int .i64 ((d : Int) + 1))).alloc (.cells #[.int .i64 0, .int .i64 0, .string ⟨#[]⟩, .slice none 0 0, .slice none 0 0] 27)).alloc (.cells #[.int .i64 7, .int .i64 0, .string ⟨#[]⟩, .slice none 0 0, .slice none 0 0] 27)) rb s k (d + 1) 0) := by
    have := ((h.set_ 2 (.int .i64 ((d + 1 : Nat) : Int))).alloc (.cells #[.int .i64 0, .int .i64 0, .string ⟨#[]⟩, .slice none 0 0, .slice none 0 0] 27)).alloc (.cells #[.int .i64 7, .int .i64 0, .string ⟨#[]⟩, .slice none 0 0, .slice none 0 0] 27)
    exact this
  have x1 : IntKind.i64.wrap ((d : Int) + 1) = (d : Int) + 1 := IntWalk.i64_in _ (by omega)
  have x2 : IntKind.i64.wrap (d : Int) = (d : Int) := IntWalk.i64_in _ (by omega)
  clear hV h HV hdd
  go_enter Try.func49, Try.ntmps49
  go_wp2_with fail
  refine (rblanks_any rb s k (d + 1) 0 _ R0.out hk hs).mono ?_; rintro e w1 ⟨rfl, k1, hk1, hd1, h1, g1⟩
  have hkk1 := blanks_at hd1 hk1 hk
  have L1 := Lib.hid (L0.out.next g1 hrb)
  have R1 := Lib.hid h1
  have D1 := Lib.hid hd1
  clear h1 g1 hd1 L0 R0 c0 c1 c2 c3 f2
  go_wp2_with fail
  by_cases p93 : k1 < s.size ∧ bt s k1 = 125
  · have E1 : Hid (V = .ok (.mk 7 0 ⟨#[]⟩ [] [], s.toList.drop (k1 + 1))) := by show _ = _; rw [HE0.out, if_pos (by rw [← D1.out]; exact head_at.2 p93), ← D1.out, tail_at]
    have hk2 : k1 + 1 ≤ s.size := by omega
    refine (ris_yes rb s k1 (d + 1) 125 _ R1.out p93.1 hs p93.2).mono ?_; rintro e w2 ⟨rfl, h2, g2⟩
    have L2 := Lib.hid (L1.out.next g2 hrb)
    have R2 := Lib.hid h2
    clear h2 g2 p93 L1 R1 D1 HE0 HV2
    have HKS : Hid (∀ t ∈ ([] : List ByteArray), t.size ≤ maxLen) := by intro t ht; cases ht
    obtain ⟨z0, z1, z2, z3⟩ := R2.out.cells4
    have z4 := R2.out.frozen 2
    have RF : Hid (RSt (w2.setCell ⟨rb, 2, none⟩ (.int .i64 (d : Int))) rb s (k1 + 1) d 0) := by
      have := R2.out.set_ 2 (.int .i64 (d : Int))
      exact this
    have NF := Lib.hid (L2.out.node.far (p := ⟨rb, 2, none⟩) (by simp; omega) (.int .i64 (d : Int)))
    have SF := Lib.hid (L2.out.res.far (p := ⟨rb, 2, none⟩) (by simp; omega) (.int .i64 (d : Int)))
    have GF : Hid (w.grownBy (w2.setCell ⟨rb, 2, none⟩ (.int .i64 (d : Int))) (some rb)) := grown_set L2.out.grow 2 _
    have XF : Hid ((w2.setCell ⟨rb, 2, none⟩ (.int .i64 (d : Int))).heap.size = w2.heap.size ∧ ∀ g, g ≠ rb → (w2.setCell ⟨rb, 2, none⟩ (.int .i64 (d : Int))).heap[g]? = w2.heap[g]?) := ⟨by simp, fun g hg => set_far hg⟩
    go_upto_region 13 with fail
    generalize w2.setCell ⟨rb, 2, none⟩ (.int .i64 (d : Int)) = wf at *
    clear z0 z1 z2 z3 z4
    obtain ⟨n0, n1, n2, n3, n4⟩ := NF.out.cells5
    obtain ⟨z0, z1, z2, z3, z4⟩ := SF.out.cells5
    have f0 := SF.out.frozen 0
    have f1 := SF.out.frozen 1
    have f2 := SF.out.frozen 2
    have f3 := SF.out.frozen 3
    have f4 := SF.out.frozen 4
    obtain ⟨hfin, hgr, hsz, hot⟩ := laid5 SF.out GF.out (Nat.le_refl _) (.int .i64 7) (.int .i64 0) (.string ⟨#[]⟩) (.slice none 0 0) (.slice none 0 0)
    have HFIN := Lib.hid hfin; have HGR := Lib.hid hgr; have HSZ := Lib.hid hsz; have HOT := Lib.hid hot
    clear hfin hgr hsz hot
    go_wp2_with fail
    clear f0 f1 f2 f3 f4 z0 z1 z2 z3 z4 n0 n1 n2 n3 n4
    generalize (((((wf.setCell ⟨w.heap.size, 0, none⟩ (.int .i64 7)).setCell ⟨w.heap.size, 1, none⟩ (.int .i64 0)).setCell ⟨w.heap.size, 2, none⟩ (.string ⟨#[]⟩)).setCell ⟨w.heap.size, 3, none⟩ (.slice none 0 0)).setCell ⟨w.heap.size, 4, none⟩ (.slice none 0 0)) = WF at *
    obtain ⟨q0, q1, q2, q3, q4⟩ := HFIN.out.cells5
    refine bodyPost_ret (v := .agg #[.int .i64 7, .int .i64 0, .string ⟨#[]⟩, (.slice none 0 0), (.slice none 0 0)]) (by simp [results, Try.results49, go_sem, q0, q1, q2, q3, q4]) rfl ?_
    have hrf : RSt WF rb s (k1 + 1) d 0 := (HOT.out rb (by omega)).trans RF.out
    exact RVal.yes E1.out ⟨_, _, _, _, _, _, _, _, _, rfl, L2.out.node_in (by unfold I64; omega) HKS.out hrb (fun g h1 h2 => (HOT.out g h1).trans (XF.out.2 g h2)) (by rw [HSZ.out, XF.out.1])⟩ ⟨(k1 + 1), hk2, rfl, hrf, HGR.out⟩
  have E1 : Hid (V = objL d (s.toList.drop k1) [] []) := by show _ = _; rw [HE0.out, if_neg (by rw [← D1.out]; exact fun e => p93 (head_at.1 e)), D1.out]
  have HS := Lib.hid (ris_no rb s k1 (d + 1) 125 _ R1.out (fun hl => by rw [beq_eq_false_iff_ne]; exact fun e => p93 ⟨hl, e⟩))
  clear p93 HE0 D1
  refine HS.out.mono ?_; rintro e w2 ⟨rfl, h2, g2⟩
  have I2 : Hid (ObjI w rb s d k V k1 0 (s.size - k1 + 1) w2) := .inl ⟨rfl, hkk1, by omega, [], [], none, 0, none, 0, [], E1.out, by simp, by simp, by simp, L1.out.next g2 hrb⟩
  have R2 := Lib.hid h2
  clear h2 g2 L1 R1 HS E1
  go_wp2_with fail
  go_loopg [7, 8] (s.size - k1 + 1) (fun g t7 t8 wr => ∃ (j : Nat) (er : Int), j ≤ s.size ∧ Hid (RSt wr rb s j (d + 1) er) ∧ Hid (ObjI w rb s d k V j er g wr))
  case atStart => exact ⟨k1, 0, hk1, R2, I2⟩
  case round =>
    clear R2 I2
    obtain ⟨j, er, hj, hR, hI⟩ := hrel
    obtain ⟨wo, rfl⟩ : ∃ wo : World, wo = wr := ⟨_, rfl⟩
    obtain ⟨c0, c1, c2, c3⟩ := hR.out.cells4
    rcases hI.out with ⟨rfl, hkj, hg, ks, ns, K, kc, A, c, ys, hv, hnl, hkl, hks, hL⟩ | ⟨he, hv, hE⟩
    case inr =>
      have E1 : Hid (V = .error er) := hv
      obtain ⟨⟨K, a, kc, A, b, c, hn⟩, hr, hgw⟩ := hE
      have NE := Lib.hid hn; have SE := Lib.hid hr; have GE := Lib.hid hgw
      have ne : (er == 0) = false := by rw [beq_eq_false_iff_ne]; exact he
      clear hn hr hgw hv hI he HV2
      obtain ⟨z0, z1, z2, z3⟩ := hR.out.cells4
      have z4 := hR.out.frozen 2
      have RF : Hid (RSt (wo.setCell ⟨rb, 2, none⟩ (.int .i64 (d : Int))) rb s j d er) := by
        have := hR.out.set_ 2 (.int .i64 (d : Int))
        exact this
      have NF := Lib.hid (NE.out.far (p := ⟨rb, 2, none⟩) (by simp; omega) (.int .i64 (d : Int)))
      have SF := Lib.hid (SE.out.far (p := ⟨rb, 2, none⟩) (by simp; omega) (.int .i64 (d : Int)))
      have GF : Hid (w.grownBy (wo.setCell ⟨rb, 2, none⟩ (.int .i64 (d : Int))) (some rb)) := grown_set GE.out 2 _
      have XF : Hid ((wo.setCell ⟨rb, 2, none⟩ (.int .i64 (d : Int))).heap.size = wo.heap.size ∧ ∀ g, g ≠ rb → (wo.setCell ⟨rb, 2, none⟩ (.int .i64 (d : Int))).heap[g]? = wo.heap[g]?) := ⟨by simp, fun g hg => set_far hg⟩
      go_upto_region 35 with fail
      generalize wo.setCell ⟨rb, 2, none⟩ (.int .i64 (d : Int)) = wf at *
      clear z0 z1 z2 z3 z4
      obtain ⟨n0, n1, n2, n3, n4⟩ := NF.out.cells5
      obtain ⟨z0, z1, z2, z3, z4⟩ := SF.out.cells5
      have f0 := SF.out.frozen 0
      have f1 := SF.out.frozen 1
      have f2 := SF.out.frozen 2
      have f3 := SF.out.frozen 3
      have f4 := SF.out.frozen 4
      obtain ⟨hfin, hgr, hsz, hot⟩ := laid5 SF.out GF.out (Nat.le_refl _) (.int .i64 7) (.int .i64 0) (.string ⟨#[]⟩) (.slice K a kc) (.slice A b c)
      have HFIN := Lib.hid hfin; have HGR := Lib.hid hgr; have HSZ := Lib.hid hsz; have HOT := Lib.hid hot
      clear hfin hgr hsz hot
      go_wp2_with fail
      clear f0 f1 f2 f3 f4 z0 z1 z2 z3 z4 n0 n1 n2 n3 n4
      generalize (((((wf.setCell ⟨w.heap.size, 0, none⟩ (.int .i64 7)).setCell ⟨w.heap.size, 1, none⟩ (.int .i64 0)).setCell ⟨w.heap.size, 2, none⟩ (.string ⟨#[]⟩)).setCell ⟨w.heap.size, 3, none⟩ (.slice K a kc)).setCell ⟨w.heap.size, 4, none⟩ (.slice A b c)) = WF at *
      obtain ⟨q0, q1, q2, q3, q4⟩ := HFIN.out.cells5
      refine bodyPost_ret (v := .agg #[.int .i64 7, .int .i64 0, .string ⟨#[]⟩, (.slice K a kc), (.slice A b c)]) (by simp [results, Try.results49, go_sem, q0, q1, q2, q3, q4]) rfl ?_
      have hrf : RSt WF rb s j d er := (HOT.out rb (by omega)).trans RF.out
      exact RVal.no E1.out ⟨_, _, _, _, _, _, _, _, _, rfl⟩ ⟨j, hj, hrf, HGR.out⟩
    have HV0 := Lib.hid hv
    have HL0 := Lib.hid hL
    have HKS0 := Lib.hid hks
    have hnl6 : ns.length ≤ 1000000 := by omega
    have hkl6 : ks.length ≤ 1000000 := by omega
    clear hv hL hI hks
    go_wp2_with fail
    refine (rblanks_any rb s j (d + 1) 0 _ hR.out hj hs).mono ?_; rintro e w3 ⟨rfl, k3, hk3, hd3, h3, g3⟩
    have hj3 := blanks_at hd3 hk3 hj
    have L3 := Lib.hid (HL0.out.next g3 hrb)
    have R3 := Lib.hid h3
    have D3 := Lib.hid hd3
    clear h3 g3 hd3 c0 c1 c2 c3 HL0 hR
    go_wp2_with fail
    by_cases p34 : k3 < s.size ∧ bt s k3 = 34
    case neg =>
      have E1 : Hid (V = .error 3) := by show _ = _; rw [HV0.out, objL_eq, textL_no (by rw [← D3.out]; exact fun e => p34 (head_at.1 e))]
      have HS4 := Lib.hid (ris_no rb s k3 (d + 1) 34 _ R3.out (fun hl => by rw [beq_eq_false_iff_ne]; exact fun e => p34 ⟨hl, e⟩))
      clear p34 HV0 HV2
      refine HS4.out.mono ?_; rintro e w4 ⟨rfl, h4, g4⟩
      have L4 := Lib.hid (L3.out.next g4 hrb)
      have R4 := Lib.hid h4
      clear h4 g4 L3 R3 HS4
      go_wp2_with fail
      refine (rfail_0 rb s k3 (d + 1) 3 _ R4.out).mono ?_; rintro e w5 ⟨rfl, h5, g5⟩
      have L5 := Lib.hid (L4.out.next g5 hrb)
      have R5 := Lib.hid h5
      clear h5 g5 L4 R4
      obtain ⟨z0, z1, z2, z3⟩ := R5.out.cells4
      have z4 := R5.out.frozen 2
      have RF : Hid (RSt (w5.setCell ⟨rb, 2, none⟩ (.int .i64 (d : Int))) rb s k3 d 3) := by
        have := R5.out.set_ 2 (.int .i64 (d : Int))
        exact this
      have NF := Lib.hid (L5.out.node.far (p := ⟨rb, 2, none⟩) (by simp; omega) (.int .i64 (d : Int)))
      have SF := Lib.hid (L5.out.res.far (p := ⟨rb, 2, none⟩) (by simp; omega) (.int .i64 (d : Int)))
      have GF : Hid (w.grownBy (w5.setCell ⟨rb, 2, none⟩ (.int .i64 (d : Int))) (some rb)) := grown_set L5.out.grow 2 _
      have XF : Hid ((w5.setCell ⟨rb, 2, none⟩ (.int .i64 (d : Int))).heap.size = w5.heap.size ∧ ∀ g, g ≠ rb → (w5.setCell ⟨rb, 2, none⟩ (.int .i64 (d : Int))).heap[g]? = w5.heap[g]?) := ⟨by simp, fun g hg => set_far hg⟩
      go_upto_region 35 with fail
      generalize w5.setCell ⟨rb, 2, none⟩ (.int .i64 (d : Int)) = wf at *
      clear z0 z1 z2 z3 z4
      obtain ⟨n0, n1, n2, n3, n4⟩ := NF.out.cells5
      obtain ⟨z0, z1, z2, z3, z4⟩ := SF.out.cells5
      have f0 := SF.out.frozen 0
      have f1 := SF.out.frozen 1
      have f2 := SF.out.frozen 2
      have f3 := SF.out.frozen 3
      have f4 := SF.out.frozen 4
      obtain ⟨hfin, hgr, hsz, hot⟩ := laid5 SF.out GF.out (Nat.le_refl _) (.int .i64 7) (.int .i64 0) (.string ⟨#[]⟩) (.slice K ks.length kc) (.slice A ns.length c)
      have HFIN := Lib.hid hfin; have HGR := Lib.hid hgr; have HSZ := Lib.hid hsz; have HOT := Lib.hid hot
      clear hfin hgr hsz hot
      go_wp2_with fail
      clear f0 f1 f2 f3 f4 z0 z1 z2 z3 z4 n0 n1 n2 n3 n4
      generalize (((((wf.setCell ⟨w.heap.size, 0, none⟩ (.int .i64 7)).setCell ⟨w.heap.size, 1, none⟩ (.int .i64 0)).setCell ⟨w.heap.size, 2, none⟩ (.string ⟨#[]⟩)).setCell ⟨w.heap.size, 3, none⟩ (.slice K ks.length kc)).setCell ⟨w.heap.size, 4, none⟩ (.slice A ns.length c)) = WF at *
      obtain ⟨q0, q1, q2, q3, q4⟩ := HFIN.out.cells5
      refine bodyPost_ret (v := .agg #[.int .i64 7, .int .i64 0, .string ⟨#[]⟩, (.slice K ks.length kc), (.slice A ns.length c)]) (by simp [results, Try.results49, go_sem, q0, q1, q2, q3, q4]) rfl ?_
      have hrf : RSt WF rb s k3 d 3 := (HOT.out rb (by omega)).trans RF.out
      exact RVal.no E1.out ⟨_, _, _, _, _, _, _, _, _, rfl⟩ ⟨k3, hk3, hrf, HGR.out⟩
    have HTX := Lib.hid (textL_at D3.out p34)
    have hk31 : k3 + 1 ≤ s.size := by omega
    refine (ris_yes rb s k3 (d + 1) 34 _ R3.out p34.1 hs p34.2).mono ?_; rintro e w4 ⟨rfl, h4, g4⟩
    have L4 := Lib.hid (L3.out.next g4 hrb)
    have R4 := Lib.hid h4
    clear h4 g4 p34 L3 R3 D3
    go_upto_region 19 with fail
    go_cut [7] (fun t7 wx => ∃ (t : ByteArray) (k4 : Nat) (er : Int), t7 = .string t ∧ t.size ≤ 4000000 ∧ k4 ≤ s.size ∧ (er = 0 → j ≤ k4) ∧ Hid (RSt wx rb s k4 (d + 1) er) ∧ Hid (LInv w rb 7 ks ns wx K kc A c ys) ∧ Hid (KeyI s d V ks ns t k4 er 0))
    case first =>
      have HT := rtext_any rb s (k3 + 1) (d + 1) w4 R4.out hk31 hs
      have hTX := HTX.out
      cases hq : textT (s.toList.drop (k3 + 1)) [] with
      | none =>
        rw [hq] at HT hTX
        have HT2 := Lib.hid (show Calls Try.prog 48 #[.pointer (some ⟨rb, 0, none⟩)] w4 (fun e w' => e = .returned (.string ⟨#[]⟩) ∧ RBad rb s (d + 1) 3 w4 w') from HT)
        have E1 : Hid (V = .error 3) := by show _ = _; rw [HV0.out, objL_eq, hTX]
        clear HT hTX hq HTX HV0
        go_wp2_with fail
        refine HT2.out.mono ?_; rintro e w5 ⟨rfl, k5, hk5, h5, g5⟩
        have L5 := Lib.hid (L4.out.next g5 hrb)
        have R5 := Lib.hid h5
        clear h5 g5
        go_wp2_with fail
        go_meet
        exact ⟨⟨#[]⟩, k5, 3, rfl, by decide, hk5, fun e => by omega, R5, L5, .inr ⟨by omega, E1.out⟩⟩
      | some p =>
        obtain ⟨b, r⟩ := p
        rw [hq] at HT hTX
        have HT2 := Lib.hid (show Calls Try.prog 48 #[.pointer (some ⟨rb, 0, none⟩)] w4 (fun e w' => e = .returned (.string ⟨b.toArray⟩) ∧ RTo rb s (d + 1) r w4 w') from HT)
        have HSZ := Lib.hid (key_size hTX hs)
        have HLE : Hid (r.length ≤ (s.toList.drop (k3 + 1)).length) := by
          have := (textT_le _ _ _ _ _ (Nat.le_refl _) hq).1.length_le
          exact this
        have HTX2 := Lib.hid hTX
        clear HT hTX hq HTX
        go_wp2_with fail
        refine HT2.out.mono ?_; rintro e w5 ⟨rfl, k5, hk5, hd5, h5, g5⟩
        have L5 := Lib.hid (L4.out.next g5 hrb)
        have R5 := Lib.hid h5
        have KI := Lib.hid (keyI_start HV0.out HTX2.out hd5)
        have hj5 : j ≤ k5 := by have := HLE.out; rw [← hd5, len_drop, len_drop] at this; omega
        clear h5 g5 hd5
        go_wp2_with fail
        go_meet
        exact ⟨⟨b.toArray⟩, k5, 0, rfl, HSZ.out, hk5, fun _ => hj5, R5, L5, KI⟩
    case rest =>
      obtain ⟨t, k4, er, rfl, ht4, hk4, hjk4, hR4, hL4, hKI⟩ := hcut
      have HJ4 := Lib.hid hjk4
      obtain ⟨w4, rfl⟩ : ∃ w4 : World, w4 = wc := ⟨_, rfl⟩
      clear L4 R4 HTX HV0 hjk4
      go_wp2_with fail
      go_loopw [8] (fun t8 wr => ∃ (i : Nat) (er : Int), i ≤ ks.length ∧ t8 = .int .i64 i ∧ Hid (er = 0 → j ≤ k4) ∧ Hid (RSt wr rb s k4 (d + 1) er) ∧ Hid (LInv w rb 7 ks ns wr K kc A c ys) ∧ Hid (KeyI s d V ks ns t k4 er i)) (fun t8 _ => ks.length - (intOf t8).toNat)
      case atStart => exact ⟨0, er, by omega, rfl, HJ4, hR4, hL4, hKI⟩
      case round =>
        clear HJ4 hR4 hL4 hKI
        obtain ⟨i, er, hi, rfl, HJ4, hR4, hL4, hKI⟩ := hrel
        obtain ⟨wo, rfl⟩ : ∃ wo : World, wo = wr := ⟨_, rfl⟩
        obtain ⟨c0, c1, c2, c3⟩ := hR4.out.cells4
        obtain ⟨n0, n1, n2, n3, n4⟩ := hL4.out.node.cells5
        go_upto_region 21 with fail
        go_cut [66] (fun t66 wx => t66 = .bool (decide (i < ks.length) && er == 0) ∧ wx = wo)
        case first =>
          by_cases hlt : i < ks.length
          · have hd : decide ((i : Int) < (ks.length : Int)) = true := decide_eq_true (by omega)
            have HD2 : Hid ((decide (i < ks.length) && er == 0) = (er == 0)) := by show _ = _; rw [decide_eq_true hlt]; rfl
            go_wp2_with fail
            go_meet
            exact ⟨by rw [HD2.out], rfl⟩
          · have hd : decide ((i : Int) < (ks.length : Int)) = false := decide_eq_false (by omega)
            have HD2 : Hid ((decide (i < ks.length) && er == 0) = false) := by show _ = _; rw [decide_eq_false hlt]; rfl
            go_wp2_with fail
            go_meet
            exact ⟨by rw [HD2.out], rfl⟩
        case rest =>
          obtain ⟨rfl, hwc⟩ := hcut
          obtain rfl : wc = wo := hwc
          obtain ⟨wo, rfl⟩ : ∃ wo : World, wo = wc := ⟨_, rfl⟩
          cases hb2 : (decide (i < ks.length) && er == 0) with
          | true =>
            rw [Bool.and_eq_true, decide_eq_true_eq, beq_iff_eq] at hb2
            obtain ⟨hlt, rfl⟩ := hb2
            obtain ⟨gk, gcap, hK, hgk1, hgk2⟩ := World.ownsRow.form hL4.out.keys (by omega)
            obtain ⟨x, hx⟩ : ∃ x, ks[i]? = some x := ⟨_, List.getElem?_eq_getElem hlt⟩
            injection hK with hK1 hK2 hK3
            subst hK1
            have hcx : wo.cell? ⟨gk, i, none⟩ = some (.string x) := (World.ownsRow.cellAt hL4.out.keys i (by omega)).trans (by rw [List.getElem?_map, hx]; rfl)
            have i0 : (0 : Int) ≤ (i : Int) := by omega
            have i1 : (i : Int) < (ks.length : Int) := by omega
            rcases hKI.out with ⟨_, hno, hv⟩ | ⟨hc, _⟩
            case inr => exact absurd rfl hc
            cases he : (x.toList == t.toList) with
            | true =>
              have E1 : Hid (V = .error 5) := by show _ = _; rw [hv, if_pos (any_yes hx he)]
              clear hno hv hx hKI
              go_wp2_with fail
              refine (rfail_0 rb s k4 (d + 1) 5 _ hR4.out).mono ?_; rintro e w5 ⟨rfl, h5, g5⟩
              have L5 := Lib.hid (hL4.out.next g5 hrb)
              have R5 := Lib.hid h5
              clear h5 g5
              go_wp2_with fail
              go_roundw
              case rel => exact ⟨i + 1, 5, by omega, by go_num, fun e => by omega, R5, L5, .inr ⟨by omega, E1.out⟩⟩
              case measure => simp [intOf]; omega
            | false =>
              have KI : Hid (KeyI s d V ks ns t k4 0 (i + 1)) := .inl ⟨rfl, fun j' x' hj' hx' => by
                by_cases e : j' = i
                · subst e; rw [hx] at hx'; injection hx' with hx'; rw [← hx']; exact he
                · exact hno j' x' (by omega) hx', hv⟩
              clear hno hv hx hKI
              go_wp2_with fail
              go_roundw
              case rel => exact ⟨i + 1, 0, by omega, by go_num, HJ4, hR4, hL4, KI⟩
              case measure => simp [intOf]; omega
          | false =>
            have KJ : Hid (KeyJ s d V (ks ++ [t]) ns k4 er) := hKI.out.done (fun e => by
              rw [e, Bool.and_eq_false_iff, decide_eq_false_iff_not] at hb2
              rcases hb2 with h | h
              · omega
              · cases h)
            have LD4 : Hid (LInv w rb 7 ks ns (wo.alloc (.cells #[.string t] 9)) K kc A c ys) := hL4.out.next (grown_alloc (grown_refl _ _) _) hrb
            have RD4 : Hid (RSt (wo.alloc (.cells #[.string t] 9)) rb s k4 (d + 1) er) := hR4.out.alloc _
            have htl : Hid (t.size ≤ maxLen) := by show _ ≤ _; simp only [maxLen]; omega
            clear hb2 hKI
            go_wp2_with (at_builtin; refine wpList_pushStr _ rfl _ _ rfl (w.heap.size + 2) (.slice K ks.length kc) ks.length (ks.map Value.string) rfl hL4.out.keys t rfl (by omega) hL4.out.size ?_; intro v5 w5 p1 p2 p3; obtain ⟨g, cp, rfl, hg1, hg2⟩ := World.ownsRow.form p1 (by omega); have LK := Lib.hid (LD4.out.key hrb p1 hg1 p2 p3); have n5 := LD4.out.node.grown p2 (fun e => by have := (own_lt LD4.out.keys e.symm).1; omega); have l5c := n5.cell 3; have l5f := n5.frozen 3; clear n5 p1 p2 p3)
            have RK : Hid (RSt (w5.setCell ⟨w.heap.size + 1, 3, none⟩ (.slice (some ⟨g, 0, none⟩) (ks.length + 1) cp)) rb s k4 (d + 1) er) := (LK.out.2 rb (by omega) (by omega)).trans RD4.out
            have LK2 := Lib.hid LK.out.1
            clear LK l5c l5f hL4 hR4 LD4 RD4
            obtain ⟨ks', hks'⟩ : ∃ ks', ks' = ks ++ [t] := ⟨_, rfl⟩
            rw [← hks'] at KJ LK2
            have HKL : Hid (∀ x ∈ ks', x.size ≤ maxLen) := by
              intro x hx
              rw [hks', List.mem_append] at hx
              rcases hx with hx | hx
              · exact HKS0.out x hx
              · rw [List.mem_singleton.1 hx]; exact htl.out
            have HKN : Hid (ks'.length ≤ j + 1) := by show _ ≤ _; rw [hks', List.length_append]; simp; omega
            have hkn1 : ks'.length = ks.length + 1 := by rw [hks', List.length_append]; simp
            have HKN1 := Lib.hid hkn1
            clear hks' hkn1
            refine (rblanks_any rb s k4 (d + 1) er _ RK.out hk4 hs).mono ?_; rintro e w6 ⟨rfl, k6, hk6, hd6, h6, g6⟩
            have hj6 := blanks_at hd6 hk6 hk4
            have L6 := Lib.hid (LK2.out.next g6 hrb)
            have R6 := Lib.hid h6
            have D6 := Lib.hid hd6
            clear h6 g6 hd6 LK2 RK n0 n1 n2 n3 n4 c0 c1 c2 c3
            go_upto_region 27 with fail
            go_cut [88] (fun t88 wx => ∃ (nb : Bool) (k7 : Nat) (er7 : Int), t88 = .bool nb ∧ k7 ≤ s.size ∧ Hid (RSt wx rb s k7 (d + 1) er7) ∧ Hid (LInv w rb 7 ks' ns wx (some ⟨g, 0, none⟩) cp A c ys) ∧ Hid ((nb = false ∧ er7 = 0 ∧ j ≤ k7 ∧ V = match valL (d + 1) (blanksL (s.toList.drop k7)) with
                | .error e => .error e
                | .ok (n, r2) => if (blanksL r2).head? = some 125 then .ok (.mk 7 0 ⟨#[]⟩ ks' (ns ++ [n]), (blanksL r2).tail)
                  else if (blanksL r2).head? = some 44 then objL d (blanksL r2).tail ks' (ns ++ [n]) else .error 3) ∨ (nb = true ∧ V = .error (if er7 = 0 then 3 else er7))))
            case first =>
              rcases KJ.out with ⟨rfl, hv⟩ | ⟨he, hv⟩
              · have HJ := HJ4.out rfl
                have HV5 := Lib.hid hv
                clear hv KJ
                by_cases p58 : k6 < s.size ∧ bt s k6 = 58
                · have HV6 : Hid (V = match valL (d + 1) (blanksL (s.toList.drop (k6 + 1))) with
                    | .error e => .error e
                    | .ok (n, r2) => if (blanksL r2).head? = some 125 then .ok (.mk 7 0 ⟨#[]⟩ ks' (ns ++ [n]), (blanksL r2).tail)
                      else if (blanksL r2).head? = some 44 then objL d (blanksL r2).tail ks' (ns ++ [n]) else .error 3) := by show _ = _; rw [HV5.out, if_pos (by rw [← D6.out]; exact head_at.2 p58), ← D6.out, tail_at] <;> rfl
                  have hk7 : k6 + 1 ≤ s.size := by omega
                  have HS := Lib.hid (ris_yes rb s k6 (d + 1) 58 _ R6.out p58.1 hs p58.2)
                  clear HV5 p58
                  go_wp2_with fail
                  refine HS.out.mono ?_; rintro e w7 ⟨rfl, h7, g7⟩
                  have L7 := Lib.hid (L6.out.next g7 hrb)
                  have R7 := Lib.hid h7
                  clear h7 g7
                  go_wp2_with fail
                  go_meet
                  exact ⟨false, k6 + 1, 0, rfl, hk7, R7, L7, .inl ⟨rfl, rfl, by omega, HV6.out⟩⟩
                · have E1 : Hid (V = .error 3) := by show _ = _; rw [HV5.out, if_neg (by rw [← D6.out]; exact fun e => p58 (head_at.1 e))]
                  have HS := Lib.hid (ris_no rb s k6 (d + 1) 58 _ R6.out (fun hl => by rw [beq_eq_false_iff_ne]; exact fun e => p58 ⟨hl, e⟩))
                  clear HV5 p58
                  go_wp2_with fail
                  refine HS.out.mono ?_; rintro e w7 ⟨rfl, h7, g7⟩
                  have L7 := Lib.hid (L6.out.next g7 hrb)
                  have R7 := Lib.hid h7
                  clear h7 g7
                  go_wp2_with fail
                  go_meet
                  exact ⟨true, k6, 0, rfl, hk6, R7, L7, .inr ⟨rfl, E1.out⟩⟩
              · have E1 : Hid (V = .error (if er = 0 then 3 else er)) := by show _ = _; rw [hv, if_neg he]
                have HS := Lib.hid (ris_err rb s k6 (d + 1) 58 er (by rw [beq_eq_false_iff_ne]; exact he) _ R6.out)
                clear hv he KJ
                go_wp2_with fail
                refine HS.out.mono ?_; rintro e w7 ⟨rfl, h7, g7⟩
                have L7 := Lib.hid (L6.out.next g7 hrb)
                have R7 := Lib.hid h7
                clear h7 g7
                go_wp2_with fail
                go_meet
                exact ⟨true, k6, er, rfl, hk6, R7, L7, .inr ⟨rfl, E1.out⟩⟩
            case rest =>
              obtain ⟨nb, k7, er7, rfl, hk7, hR7, hL7, h7⟩ := hcut
              obtain ⟨wo, rfl⟩ : ∃ wo : World, wo = wc := ⟨_, rfl⟩
              clear L6 R6 D6 KJ HJ4
              cases nb with
              | true =>
                rcases h7.out with ⟨h, _⟩ | ⟨_, hv7⟩
                case inl => cases h
                have E1 := Lib.hid hv7
                clear hv7 h7
                go_wp2_with fail
                refine (rfail_gen rb s k7 (d + 1) er7 3 _ hR7.out).mono ?_; rintro e w8 ⟨rfl, h8, g8⟩
                obtain ⟨ce, hce⟩ : ∃ ce, ce = (if er7 = 0 then 3 else er7) := ⟨_, rfl⟩
                rw [← hce] at h8 E1
                have hce0 : ce ≠ 0 := by rw [hce]; split <;> omega
                have hL2 := Lib.hid (hL7.out.next g8 hrb)
                have hR2 := Lib.hid h8
                have HC : Hid (Calls Try.prog 27 #[.pointer (some ⟨rb, 0, none⟩)] w8.drew (fun e w' => RAny e ∧ RBad rb s (d + 1) ce w8.drew w')) := rvalue_err rb s k7 (d + 1) ce w8.drew hR2.out.drew hk7 hs (by rw [beq_eq_false_iff_ne]; exact hce0)
                clear hce h8 g8 hR7 hL7
                go_upto_region 29 with fail
                have LD : Hid (LInv w rb 7 ks' ns w8.drew (some ⟨g, 0, none⟩) cp A c ys) := hL2.out.next (grown_drew (grown_refl _ _)) hrb
                have ldc := LD.out.node.cell 4
                go_cut [] (fun wx => ∃ k5 : Nat, k5 ≤ s.size ∧ Hid (RSt wx rb s k5 (d + 1) ce) ∧ Hid (EInv w rb 7 wx))
                case first =>
                  go_region_law (first
                    | (go_simp; go_at_call 27; refine HC.out.mono ?_; rintro e w1 ⟨⟨c0', c1', c2', c3', c4', c5', c6', c7', c8', rfl⟩, k5, hk5, h5, g5⟩; have LB := Lib.hid (LD.out.next g5 hrb); have LA : Hid (LInv w rb 7 ks' ns (w1.alloc (.cells #[.int .i64 c0', .int .i64 c1', .string c2', .slice c3' c4' c5', .slice c6' c7' c8'] 27)) (some ⟨g, 0, none⟩) cp A c ys) := LB.out.next (grown_alloc (grown_refl _ _) _) hrb; have R5 : Hid (RSt (w1.alloc (.cells #[.int .i64 c0', .int .i64 c1', .string c2', .slice c3' c4' c5', .slice c6' c7' c8'] 27)) rb s k5 (d + 1) ce) := h5.alloc _; have lac := LA.out.node.cell 4; have lbc := LB.out.node.cell 4; clear h5 g5)
                    | (refine step_pushNd rfl _ _ rfl (w.heap.size + 2) (.slice A ns.length c) ns.length ys (by rfl) LA.out.own (w1.heap.size + 1) (some ⟨w1.heap.size, 0, none⟩) 1 [.int .i64 c0', .int .i64 c1', .string c2', .slice c3' c4' c5', .slice c6' c7' c8'] (by rfl) (cells_reads (Blk.new w1 _ _) rfl) cells_one (by omega) LA.out.size ?_; intro v5 w5 p1 p2 p3; obtain ⟨g, cp, rfl, hg1, hg2⟩ := World.ownsRow.form p1 (by omega); have EP := Lib.hid (EInv.push LA.out hrb (g := g) (c3 := cp) p2); have n5 := LA.out.node.grown p2 (fun e => by have := (own_lt LA.out.own e.symm).1; omega); have l5c := n5.cell 4; have l5f := n5.frozen 4; clear n5 p1 p2 p3))
                  all_goals
                    go_wp2_with fail
                    go_meet
                    exact ⟨k5, hk5, (EP.out.2 rb (by omega) (by omega)).trans R5.out, EP.out.1⟩
                case rest =>
                  obtain ⟨k5, hk5, h5, hE5⟩ := hcut
                  have he5 : (ce == 0) = false := by rw [beq_eq_false_iff_ne]; exact hce0
                  obtain ⟨wo, rfl⟩ : ∃ wo : World, wo = wc := ⟨_, rfl⟩
                  clear LD ldc HC
                  go_wp2_with fail
                  refine (rblanks_any rb s k5 (d + 1) ce _ h5.out hk5 hs).mono ?_; rintro e w6 ⟨rfl, k6, hk6, hd6, h6, g6⟩
                  have R6 := Lib.hid h6
                  have E6 := Lib.hid (hE5.out.next g6 hrb)
                  clear h6 g6 hd6
                  go_wp2_with fail
                  refine (ris_err rb s k6 (d + 1) 125 ce he5 _ R6.out).mono ?_; rintro e w7 ⟨rfl, h7, g7⟩
                  have R7 := Lib.hid h7
                  have E7 := Lib.hid (E6.out.next g7 hrb)
                  clear h7 g7
                  go_wp2_with fail
                  refine (ris_err rb s k6 (d + 1) 44 ce he5 _ R7.out).mono ?_; rintro e w8 ⟨rfl, h8, g8⟩
                  have R8 := Lib.hid h8
                  have E8 := Lib.hid (E7.out.next g8 hrb)
                  clear h8 g8
                  go_wp2_with fail
                  refine (rfail_no rb s k6 (d + 1) ce 3 he5 _ R8.out).mono ?_; rintro e w9 ⟨rfl, h9, g9⟩
                  have R9 := Lib.hid h9
                  have E9 := Lib.hid (E8.out.next g9 hrb)
                  clear h9 g9
                  go_wp2_with fail
                  go_roundg (gk - 1)
                  case measure => omega
                  case rel => exact ⟨k6, ce, hk6, R9, .inr ⟨hce0, E1.out, E9.out⟩⟩
              | false =>
                rcases h7.out with ⟨_, hv7, hjk7, hv8⟩ | ⟨h, _⟩
                case inr => cases h
                subst hv7
                have hv2 := Lib.hid hv8
                have hL2 := hL7
                have hR2 := hR7
                clear hv8 h7
                go_upto_region 29 with fail
                cases hq : valL (d + 1) (blanksL (s.toList.drop k7)) with
                | error ce =>
                  have hce : 3 ≤ ce ∧ ce ≤ 5 := (val_err _).1 (d + 1) _ _ (Nat.le_refl _) hq
                  have E1 : Hid (V = .error ce) := by show _ = _; rw [hv2.out, hq]
                  have hce0 : ce ≠ 0 := by omega
                  have HC : Hid (Calls Try.prog 27 #[.pointer (some ⟨rb, 0, none⟩)] wo.drew (fun e w' => RAny e ∧ RBad rb s (d + 1) ce wo.drew w')) := by
                    have := HV2.out k7 wo.drew (by omega) hk7 hR2.out.drew
                    unfold VCall at this
                    rw [hq] at this
                    exact this
                  clear hq hv2 hce
                  have LD : Hid (LInv w rb 7 ks' ns wo.drew (some ⟨g, 0, none⟩) cp A c ys) := hL2.out.next (grown_drew (grown_refl _ _)) hrb
                  have ldc := LD.out.node.cell 4
                  go_cut [] (fun wx => ∃ k5 : Nat, k5 ≤ s.size ∧ Hid (RSt wx rb s k5 (d + 1) ce) ∧ Hid (EInv w rb 7 wx))
                  case first =>
                    go_region_law (first
                      | (go_simp; go_at_call 27; refine HC.out.mono ?_; rintro e w1 ⟨⟨c0', c1', c2', c3', c4', c5', c6', c7', c8', rfl⟩, k5, hk5, h5, g5⟩; have LB := Lib.hid (LD.out.next g5 hrb); have LA : Hid (LInv w rb 7 ks' ns (w1.alloc (.cells #[.int .i64 c0', .int .i64 c1', .string c2', .slice c3' c4' c5', .slice c6' c7' c8'] 27)) (some ⟨g, 0, none⟩) cp A c ys) := LB.out.next (grown_alloc (grown_refl _ _) _) hrb; have R5 : Hid (RSt (w1.alloc (.cells #[.int .i64 c0', .int .i64 c1', .string c2', .slice c3' c4' c5', .slice c6' c7' c8'] 27)) rb s k5 (d + 1) ce) := h5.alloc _; have lac := LA.out.node.cell 4; have lbc := LB.out.node.cell 4; clear h5 g5)
                      | (refine step_pushNd rfl _ _ rfl (w.heap.size + 2) (.slice A ns.length c) ns.length ys (by rfl) LA.out.own (w1.heap.size + 1) (some ⟨w1.heap.size, 0, none⟩) 1 [.int .i64 c0', .int .i64 c1', .string c2', .slice c3' c4' c5', .slice c6' c7' c8'] (by rfl) (cells_reads (Blk.new w1 _ _) rfl) cells_one (by omega) LA.out.size ?_; intro v5 w5 p1 p2 p3; obtain ⟨g, cp, rfl, hg1, hg2⟩ := World.ownsRow.form p1 (by omega); have EP := Lib.hid (EInv.push LA.out hrb (g := g) (c3 := cp) p2); have n5 := LA.out.node.grown p2 (fun e => by have := (own_lt LA.out.own e.symm).1; omega); have l5c := n5.cell 4; have l5f := n5.frozen 4; clear n5 p1 p2 p3))
                    all_goals
                      go_wp2_with fail
                      go_meet
                      exact ⟨k5, hk5, (EP.out.2 rb (by omega) (by omega)).trans R5.out, EP.out.1⟩
                  case rest =>
                    obtain ⟨k5, hk5, h5, hE5⟩ := hcut
                    have he5 : (ce == 0) = false := by rw [beq_eq_false_iff_ne]; exact hce0
                    obtain ⟨wo, rfl⟩ : ∃ wo : World, wo = wc := ⟨_, rfl⟩
                    clear LD ldc HC
                    go_wp2_with fail
                    refine (rblanks_any rb s k5 (d + 1) ce _ h5.out hk5 hs).mono ?_; rintro e w6 ⟨rfl, k6, hk6, hd6, h6, g6⟩
                    have R6 := Lib.hid h6
                    have E6 := Lib.hid (hE5.out.next g6 hrb)
                    clear h6 g6 hd6
                    go_wp2_with fail
                    refine (ris_err rb s k6 (d + 1) 125 ce he5 _ R6.out).mono ?_; rintro e w7 ⟨rfl, h7, g7⟩
                    have R7 := Lib.hid h7
                    have E7 := Lib.hid (E6.out.next g7 hrb)
                    clear h7 g7
                    go_wp2_with fail
                    refine (ris_err rb s k6 (d + 1) 44 ce he5 _ R7.out).mono ?_; rintro e w8 ⟨rfl, h8, g8⟩
                    have R8 := Lib.hid h8
                    have E8 := Lib.hid (E7.out.next g8 hrb)
                    clear h8 g8
                    go_wp2_with fail
                    refine (rfail_no rb s k6 (d + 1) ce 3 he5 _ R8.out).mono ?_; rintro e w9 ⟨rfl, h9, g9⟩
                    have R9 := Lib.hid h9
                    have E9 := Lib.hid (E8.out.next g9 hrb)
                    clear h9 g9
                    go_wp2_with fail
                    go_roundg (gk - 1)
                    case measure => omega
                    case rel => exact ⟨k6, ce, hk6, R9, .inr ⟨hce0, E1.out, E9.out⟩⟩
                | ok p =>
                  obtain ⟨n, l⟩ := p
                  have HLT : Hid (∀ k5 : Nat, k5 ≤ s.size → s.toList.drop k5 = l → k7 < k5) := fun k5 h1 h2 => later_at hq h2 h1 hk7
                  have hv3 : Hid (V = if (blanksL l).head? = some 125 then .ok (.mk 7 0 ⟨#[]⟩ ks' (ns ++ [n]), (blanksL l).tail) else if (blanksL l).head? = some 44 then objL d (blanksL l).tail ks' (ns ++ [n]) else .error 3) := by show _ = _; rw [hv2.out, hq]
                  have HC : Hid (Calls Try.prog 27 #[.pointer (some ⟨rb, 0, none⟩)] wo.drew (fun e w' => RNode n wo.drew w' e ∧ RTo rb s (d + 1) l wo.drew w')) := by
                    have := HV2.out k7 wo.drew (by omega) hk7 hR2.out.drew
                    unfold VCall at this
                    rw [hq] at this
                    exact this
                  have LD : Hid (LInv w rb 7 ks' ns wo.drew (some ⟨g, 0, none⟩) cp A c ys) := hL2.out.next (grown_drew (grown_refl _ _)) hrb
                  have ldc := LD.out.node.cell 4
                  clear hq hv2
                  go_cut [] (fun wx => ∃ (k5 : Nat) (A5 : Option Addr) (c5 : Nat) (ys5 : List Value), k5 ≤ s.size ∧ Hid (s.toList.drop k5 = l) ∧ Hid (RSt wx rb s k5 (d + 1) 0) ∧ Hid (LInv w rb 7 ks' (ns ++ [n]) wx (some ⟨g, 0, none⟩) cp A5 c5 ys5))
                  case first =>
                    go_region_law (first
                      | (go_simp; go_at_call 27; refine HC.out.mono ?_; rintro e w1 ⟨⟨c0', c1', c2', c3', c4', c5', c6', c7', c8', rfl, hn1⟩, k5, hk5, hd5, h5, g5⟩; have LB := Lib.hid (LD.out.next g5 hrb); have LA : Hid (LInv w rb 7 ks' ns (w1.alloc (.cells #[.int .i64 c0', .int .i64 c1', .string c2', .slice c3' c4' c5', .slice c6' c7' c8'] 27)) (some ⟨g, 0, none⟩) cp A c ys) := LB.out.next (grown_alloc (grown_refl _ _) _) hrb; have R5 : Hid (RSt (w1.alloc (.cells #[.int .i64 c0', .int .i64 c1', .string c2', .slice c3' c4' c5', .slice c6' c7' c8'] 27)) rb s k5 (d + 1) 0) := h5.alloc _; have N1 : Hid (NdIn (w1.alloc (.cells #[.int .i64 c0', .int .i64 c1', .string c2', .slice c3' c4' c5', .slice c6' c7' c8'] 27)) (fun b => wo.heap.size ≤ b ∧ b < (w1.alloc (.cells #[.int .i64 c0', .int .i64 c1', .string c2', .slice c3' c4' c5', .slice c6' c7' c8'] 27)).heap.size) n [.int .i64 c0', .int .i64 c1', .string c2', .slice c3' c4' c5', .slice c6' c7' c8']) := NdIn.keep (fun p hp => World.cell?_alloc_lt _ _ _ hp.2) (fun b hb => ⟨hb.1, by have := hb.2; simp; omega⟩) _ _ hn1; have D5 := Lib.hid hd5; have lac := LA.out.node.cell 4; have lbc := LB.out.node.cell 4; clear h5 g5 hd5 hn1)
                      | (refine step_pushNd rfl _ _ rfl (w.heap.size + 2) (.slice A ns.length c) ns.length ys (by rfl) LA.out.own (w1.heap.size + 1) (some ⟨w1.heap.size, 0, none⟩) 1 [.int .i64 c0', .int .i64 c1', .string c2', .slice c3' c4' c5', .slice c6' c7' c8'] (by rfl) (cells_reads (Blk.new w1 _ _) rfl) cells_one (by omega) LA.out.size ?_; intro v5 w5 p1 p2 p3; obtain ⟨g, cp, rfl, hg1, hg2⟩ := World.ownsRow.form p1 (by omega); have LP := Lib.hid (LInv.push LA.out hrb (W := wo.heap.size) (fun g hg => (own_lt hL2.out.own hg).2) (fun g hg => (own_lt hL2.out.keys hg).2) hL2.out.size N1.out p1 hg1 p2 p3); have n5 := LA.out.node.grown p2 (fun e => by have := (own_lt LA.out.own e.symm).1; omega); have l5c := n5.cell 4; have l5f := n5.frozen 4; clear n5 p1 p2 p3))
                    all_goals
                      go_wp2_with fail
                      go_meet
                      exact ⟨k5, _, _, _, hk5, D5, (LP.out.2 rb (by omega) (by omega)).trans R5.out, LP.out.1⟩
                  case rest =>
                    obtain ⟨k5, A5, c5, ys5, hk5, hd5, h5, hL5⟩ := hcut
                    have hj5 := HLT.out k5 hk5 hd5.out
                    obtain ⟨ms, hms⟩ : ∃ ms, ms = ns ++ [n] := ⟨_, rfl⟩
                    rw [← hms] at hv3 hL5
                    have HMS : Hid (ms.length = ns.length + 1) := by show _ = _; rw [hms]; simp
                    clear hms
                    obtain ⟨wo, rfl⟩ : ∃ wo : World, wo = wc := ⟨_, rfl⟩
                    clear LD ldc HC HLT hL2 hR2
                    go_wp2_with fail
                    refine (rblanks_any rb s k5 (d + 1) 0 _ h5.out hk5 hs).mono ?_; rintro e w6 ⟨rfl, k6, hk6, hd6, h6, g6⟩
                    have hk56 := blanks_at hd6 hk6 hk5
                    rw [hd5.out] at hd6
                    have R6 := Lib.hid h6
                    have L6 := Lib.hid (hL5.out.next g6 hrb)
                    have D6 := Lib.hid hd6
                    clear h6 g6 hd6
                    go_wp2_with fail
                    by_cases p93 : k6 < s.size ∧ bt s k6 = 125
                    · have E1 : Hid (V = .ok (.mk 7 0 ⟨#[]⟩ ks' ms, s.toList.drop (k6 + 1))) := by show _ = _; rw [hv3.out, if_pos (by rw [← D6.out]; exact head_at.2 p93), ← D6.out, tail_at]
                      have hk7 : k6 + 1 ≤ s.size := by omega
                      refine (ris_yes rb s k6 (d + 1) 125 _ R6.out p93.1 hs p93.2).mono ?_; rintro e w7 ⟨rfl, h7, g7⟩
                      have L7 := Lib.hid (L6.out.next g7 hrb)
                      have R7 := Lib.hid h7
                      clear h7 g7 p93 L6 R6 D6 hv3 HV2 hd5 h5 hL5
                      have HKS : Hid (∀ t ∈ ks', t.size ≤ maxLen) := HKL.out
                      obtain ⟨z0, z1, z2, z3⟩ := R7.out.cells4
                      have z4 := R7.out.frozen 2
                      have RF : Hid (RSt (w7.setCell ⟨rb, 2, none⟩ (.int .i64 (d : Int))) rb s (k6 + 1) d 0) := by
                        have := R7.out.set_ 2 (.int .i64 (d : Int))
                        exact this
                      have NF := Lib.hid (L7.out.node.far (p := ⟨rb, 2, none⟩) (by simp; omega) (.int .i64 (d : Int)))
                      have SF := Lib.hid (L7.out.res.far (p := ⟨rb, 2, none⟩) (by simp; omega) (.int .i64 (d : Int)))
                      have GF : Hid (w.grownBy (w7.setCell ⟨rb, 2, none⟩ (.int .i64 (d : Int))) (some rb)) := grown_set L7.out.grow 2 _
                      have XF : Hid ((w7.setCell ⟨rb, 2, none⟩ (.int .i64 (d : Int))).heap.size = w7.heap.size ∧ ∀ g, g ≠ rb → (w7.setCell ⟨rb, 2, none⟩ (.int .i64 (d : Int))).heap[g]? = w7.heap[g]?) := ⟨by simp, fun g hg => set_far hg⟩
                      go_upto_region 35 with fail
                      generalize w7.setCell ⟨rb, 2, none⟩ (.int .i64 (d : Int)) = wf at *
                      clear z0 z1 z2 z3 z4
                      obtain ⟨n0, n1, n2, n3, n4⟩ := NF.out.cells5
                      obtain ⟨z0, z1, z2, z3, z4⟩ := SF.out.cells5
                      have f0 := SF.out.frozen 0
                      have f1 := SF.out.frozen 1
                      have f2 := SF.out.frozen 2
                      have f3 := SF.out.frozen 3
                      have f4 := SF.out.frozen 4
                      obtain ⟨hfin, hgr, hsz, hot⟩ := laid5 SF.out GF.out (Nat.le_refl _) (.int .i64 7) (.int .i64 0) (.string ⟨#[]⟩) (.slice (some ⟨g, 0, none⟩) ks'.length cp) (.slice A5 ms.length c5)
                      have HFIN := Lib.hid hfin; have HGR := Lib.hid hgr; have HSZ := Lib.hid hsz; have HOT := Lib.hid hot
                      clear hfin hgr hsz hot
                      go_wp2_with fail
                      clear f0 f1 f2 f3 f4 z0 z1 z2 z3 z4 n0 n1 n2 n3 n4
                      generalize (((((wf.setCell ⟨w.heap.size, 0, none⟩ (.int .i64 7)).setCell ⟨w.heap.size, 1, none⟩ (.int .i64 0)).setCell ⟨w.heap.size, 2, none⟩ (.string ⟨#[]⟩)).setCell ⟨w.heap.size, 3, none⟩ (.slice (some ⟨g, 0, none⟩) ks'.length cp)).setCell ⟨w.heap.size, 4, none⟩ (.slice A5 ms.length c5)) = WF at *
                      obtain ⟨q0, q1, q2, q3, q4⟩ := HFIN.out.cells5
                      refine bodyPost_ret (v := .agg #[.int .i64 7, .int .i64 0, .string ⟨#[]⟩, (.slice (some ⟨g, 0, none⟩) ks'.length cp), (.slice A5 ms.length c5)]) (by simp [results, Try.results49, go_sem, q0, q1, q2, q3, q4]) rfl ?_
                      have hrf : RSt WF rb s (k6 + 1) d 0 := (HOT.out rb (by omega)).trans RF.out
                      exact RVal.yes E1.out ⟨_, _, _, _, _, _, _, _, _, rfl, L7.out.node_in (by unfold I64; omega) HKS.out hrb (fun g h1 h2 => (HOT.out g h1).trans (XF.out.2 g h2)) (by rw [HSZ.out, XF.out.1])⟩ ⟨(k6 + 1), hk7, rfl, hrf, HGR.out⟩
                    have hv4 : Hid (V = if (blanksL l).head? = some 44 then objL d (blanksL l).tail ks' ms else .error 3) := by show _ = _; rw [hv3.out, if_neg (by rw [← D6.out]; exact fun e => p93 (head_at.1 e))]
                    have HS7 := Lib.hid (ris_no rb s k6 (d + 1) 125 _ R6.out (fun hl => by rw [beq_eq_false_iff_ne]; exact fun e => p93 ⟨hl, e⟩))
                    clear p93 hv3 hd5 h5 hL5
                    refine HS7.out.mono ?_; rintro e w7 ⟨rfl, h7, g7⟩
                    have L7 := Lib.hid (L6.out.next g7 hrb)
                    have R7 := Lib.hid h7
                    clear h7 g7 L6 R6 HS7
                    go_wp2_with fail
                    by_cases p44 : k6 < s.size ∧ bt s k6 = 44
                    · have E1 : Hid (V = objL d (s.toList.drop (k6 + 1)) ks' ms) := by show _ = _; rw [hv4.out, if_pos (by rw [← D6.out]; exact head_at.2 p44), ← D6.out, tail_at]
                      have hk8 : k6 + 1 ≤ s.size := by omega
                      refine (ris_yes rb s k6 (d + 1) 44 _ R7.out p44.1 hs p44.2).mono ?_; rintro e w8 ⟨rfl, h8, g8⟩
                      have L8 := Lib.hid (L7.out.next g8 hrb)
                      have R8 := Lib.hid h8
                      clear h8 g8 p44
                      go_wp2_with fail
                      go_roundg (gk - 1)
                      case measure => omega
                      case rel => exact ⟨k6 + 1, 0, hk8, R8, .inl ⟨rfl, by omega, by omega, ks', ms, (some ⟨g, 0, none⟩), cp, _, _, _, E1.out, by have := HMS.out; omega, by have := HKN.out; omega, HKL.out, L8.out⟩⟩
                    · have E1 : Hid (V = .error 3) := by show _ = _; rw [hv4.out, if_neg (by rw [← D6.out]; exact fun e => p44 (head_at.1 e))]
                      have HS8 := Lib.hid (ris_no rb s k6 (d + 1) 44 _ R7.out (fun hl => by rw [beq_eq_false_iff_ne]; exact fun e => p44 ⟨hl, e⟩))
                      clear p44
                      refine HS8.out.mono ?_; rintro e w8 ⟨rfl, h8, g8⟩
                      have L8 := Lib.hid (L7.out.next g8 hrb)
                      have R8 := Lib.hid h8
                      clear h8 g8
                      go_wp2_with fail
                      refine (rfail_0 rb s k6 (d + 1) 3 _ R8.out).mono ?_; rintro e w9 ⟨rfl, h9, g9⟩
                      have L9 := Lib.hid (L8.out.next g9 hrb)
                      have R9 := Lib.hid h9
                      clear h9 g9
                      go_wp2_with fail
                      go_roundg (gk - 1)
                      case measure => omega
                      case rel => exact ⟨k6, 3, hk6, R9, .inr ⟨by omega, E1.out, L9.out.bad⟩⟩
end Go.Proofs.Ytnhoecmcbikcnaa
/-! The reference's reader: plain words for a value. -/
namespace Go.Proofs.Ytnhoecmcbikcnaa
open Go.RowKit Go.PlainAid
set_option linter.unusedVariables false
set_option linter.unusedSimpArgs false
theorem numL_no {c : UInt8} {r : List UInt8} (h : digB c = false) (h2 : c ≠ 45) : numL (c :: r) = none := by
  unfold numL
  rw [if_neg (by simp; exact h2)]
  unfold numTail
  rw [if_pos (.inl (by rw [List.takeWhile_cons, if_neg (by rw [h]; simp)]))]
theorem takeH_ne {l : List UInt8} {c a : UInt8} {t : List UInt8} {n : Nat} (h : l.head? = some c) (hn : c ≠ a) : l.take n ≠ a :: t := by
  intro e
  cases l with
  | nil => cases h
  | cons x l =>
    injection h with h
    subst h
    cases n with
    | zero => cases e
    | succ n => injection e with e1 e2; exact hn e1
theorem numL_hd {l : List UInt8} {c : UInt8} (h : l.head? = some c) (hd : digB c = false) (h2 : c ≠ 45) : numL l = none := by
  cases l with
  | nil => cases h
  | cons x l => injection h with h; subst h; exact numL_no hd h2
theorem valL_n (d : Nat) {l : List UInt8} (h : l.head? = some 110) : valL d l = if l.take 4 = [110, 117, 108, 108] then .ok (nd0 1, l.drop 4) else .error 3 := by
  rw [valL_else d l (by rw [h]; simp) (by rw [h]; simp) (by rw [h]; simp), if_neg (takeH_ne (a := 102) h (by decide)), if_neg (takeH_ne (a := 116) h (by decide)), numL_hd h (by decide) (by decide)]
theorem valL_f (d : Nat) {l : List UInt8} (h : l.head? = some 102) : valL d l = if l.take 5 = [102, 97, 108, 115, 101] then .ok (nd0 2, l.drop 5) else .error 3 := by
  rw [valL_else d l (by rw [h]; simp) (by rw [h]; simp) (by rw [h]; simp), if_neg (takeH_ne (a := 110) h (by decide)), if_neg (takeH_ne (a := 116) h (by decide)), numL_hd h (by decide) (by decide)]
theorem valL_t (d : Nat) {l : List UInt8} (h : l.head? = some 116) : valL d l = if l.take 4 = [116, 114, 117, 101] then .ok (nd0 3, l.drop 4) else .error 3 := by
  rw [valL_else d l (by rw [h]; simp) (by rw [h]; simp) (by rw [h]; simp), if_neg (takeH_ne (a := 110) h (by decide)), if_neg (takeH_ne (a := 102) h (by decide)), numL_hd h (by decide) (by decide)]
theorem valL_l (d : Nat) {l : List UInt8} (h : l.head? = some 91) : valL d l = listA d l.tail := by
  unfold listA
  by_cases hd : 24 ≤ d
  · rw [if_pos hd, valL_deep d l (.inl h) hd]
  · rw [if_neg hd, valL_arr d l h hd]
theorem valL_o (d : Nat) {l : List UInt8} (h : l.head? = some 123) : valL d l = listO d l.tail := by
  unfold listO
  by_cases hd : 24 ≤ d
  · rw [if_pos hd, valL_deep d l (.inr h) hd]
  · rw [if_neg hd, valL_obj d l h hd]
theorem valL_m (d : Nat) {l : List UInt8} {c : UInt8} (h : l.head? = some c) (h0 : c ≠ 110) (h1 : c ≠ 102) (h2 : c ≠ 116) (h3 : c ≠ 34) (h4 : c ≠ 91) (h5 : c ≠ 123) : valL d l = match numL l with
    | none => .error 3
    | some (n, r) => .ok (.mk 4 n ⟨#[]⟩ [] [], r) := by
  rw [valL_else d l (by rw [h]; simp; exact h4) (by rw [h]; simp; exact h5) (by rw [h]; simp; exact h3), if_neg (takeH_ne h h0), if_neg (takeH_ne h h1), if_neg (takeH_ne h h2)]
  cases numL l <;> rfl
def LCall (rb : Nat) (s : ByteArray) (d : Nat) (obj : Bool) (k : Nat) (w : World) : Prop := Calls Try.prog 49 #[.pointer (some ⟨rb, 0, none⟩), .bool obj] w (RVal rb s d (if obj = true then listO d (s.toList.drop k) else listA d (s.toList.drop k)) w)
end Go.Proofs.Ytnhoecmcbikcnaa
/-! The reference's reader: a value. -/
namespace Go.Proofs.Ytnhoecmcbikcnaa
open Go.RowKit Go.PlainAid
set_option linter.unusedVariables false
set_option linter.unusedSimpArgs false
set_option maxRecDepth 100000 in
set_option maxHeartbeats 2000000 in
theorem rvalue_none (rb : Nat) (s : ByteArray) (k d : Nat) (w : World) (h : RSt w rb s k d 0) (hk : k ≤ s.size) (hs : s.size ≤ 1000000) (hcase : blanksL (s.toList.drop k) = [])
    (HL : Hid (∀ obj k' w', k < k' → k' ≤ s.size → RSt w' rb s k' d 0 → LCall rb s d obj k' w')) : VCall rb s d k w := by
  have hrb := h.lt
  have hb := get_bt s
  unfold VCall
  obtain ⟨V, hV⟩ : ∃ V, V = valL d (blanksL (s.toList.drop k)) := ⟨_, rfl⟩
  rw [← hV]
  have HV := Lib.hid hV
  have R0 : Hid (RSt (w.alloc (.cells #[.int .i64 0, .int .i64 0, .string ⟨#[]⟩, .slice none 0 0, .slice none 0 0] 27)) rb s k d 0) := h.alloc _
  have Y0 : Hid (Blk (w.alloc (.cells #[.int .i64 0, .int .i64 0, .string ⟨#[]⟩, .slice none 0 0, .slice none 0 0] 27)) w.heap.size 27 #[.int .i64 0, .int .i64 0, .string ⟨#[]⟩, .slice none 0 0, .slice none 0 0]) := Blk.new w _ _
  have G0 : Hid (w.grownBy (w.alloc (.cells #[.int .i64 0, .int .i64 0, .string ⟨#[]⟩, .slice none 0 0, .slice none 0 0] 27)) (some rb)) := World.grownBy_alloc w _ _
  clear h hV
  go_enter Try.func27, Try.ntmps27
  go_wp2_with fail
  refine (rblanks_any rb s k d 0 _ R0.out hk hs).mono ?_; rintro e w1 ⟨rfl, k1, hk1, hd1, h1, g1⟩
  have hkk := blanks_at hd1 hk1 hk
  rw [← hd1] at HV hcase
  have R1 := Lib.hid h1
  have Y1 := Lib.hid (Y0.out.grown g1 (by intro e; injection e with e; omega))
  have G1 := Lib.hid (G0.out.trans g1)
  obtain ⟨c0, c1, c2, c3⟩ := h1.cells4
  have HBD := Lib.hid hd1
  clear h1 g1 hd1 R0 Y0 G0
  have R2 : Hid (∀ n, RSt (w1.drewN n) rb s k1 d 0) := fun n => R1.out
  have Y2 : Hid (∀ n, Blk (w1.drewN n) w.heap.size 27 #[.int .i64 0, .int .i64 0, .string ⟨#[]⟩, .slice none 0 0, .slice none 0 0]) := fun n => Y1.out
  have G2 : Hid (∀ n, w.grownBy (w1.drewN n) (some rb)) := fun n => grown_drewN G1.out _
  have i0 : (0 : Int) ≤ (k1 : Int) := by omega
  have hlt : ¬ k1 < s.size := by
    intro hl
    obtain ⟨u, hu, hd⟩ := drop_cons s k1 hl
    rw [hd] at hcase
    cases hcase
  have i2 : decide ((s.size : Int) ≤ (k1 : Int)) = true := decide_eq_true (by omega)
  have E1 : Hid (V = .error 3) := by show _ = _; rw [HV.out, drop_end s k1 (by omega), valL_nil]
  clear HL HV
  go_wp2_with fail
  go_quiet (fail)
  go_wp2_with fail
  refine (rfail_0 rb s k1 d 3 _ (R2.out _)).mono ?_; rintro e w9 ⟨rfl, h9, g9⟩
  have R9 := Lib.hid h9
  have Y9 := Lib.hid ((Y2.out _).grown g9 (by intro e; injection e with e; omega))
  have G9 := Lib.hid ((G2.out _).trans g9)
  clear h9 g9 c0 c1 c2 c3
  obtain ⟨z0, z1, z2, z3, z4⟩ := Y9.out.cells5
  have f0 := Y9.out.frozen 0
  have f1 := Y9.out.frozen 1
  have f2 := Y9.out.frozen 2
  have f3 := Y9.out.frozen 3
  have f4 := Y9.out.frozen 4
  obtain ⟨hfin, hgr, hsz, hot⟩ := laid5 Y9.out G9.out (Nat.le_refl _) (.int .i64 0) (.int .i64 0) (.string ⟨#[]⟩) (.slice none 0 0) (.slice none 0 0)
  have HFIN := Lib.hid hfin; have HGR := Lib.hid hgr; have HSZ := Lib.hid hsz; have HOT := Lib.hid hot
  clear hfin hgr hsz hot
  go_wp2_with fail
  clear f0 f1 f2 f3 f4 z0 z1 z2 z3 z4
  generalize (((((w9.setCell ⟨w.heap.size, 0, none⟩ (.int .i64 0)).setCell ⟨w.heap.size, 1, none⟩ (.int .i64 0)).setCell ⟨w.heap.size, 2, none⟩ (.string ⟨#[]⟩)).setCell ⟨w.heap.size, 3, none⟩ (.slice none 0 0)).setCell ⟨w.heap.size, 4, none⟩ (.slice none 0 0)) = WF at *
  obtain ⟨q0, q1, q2, q3, q4⟩ := HFIN.out.cells5
  refine bodyPost_ret (v := .agg #[.int .i64 0, .int .i64 0, .string ⟨#[]⟩, .slice none 0 0, .slice none 0 0]) (by simp [results, Try.results27, go_sem, q0, q1, q2, q3, q4]) rfl ?_
  have hrf : RSt WF rb s k1 d 3 := (HOT.out rb (by omega)).trans R9.out
  exact RVal.no E1.out ⟨_, _, _, _, _, _, _, _, _, rfl⟩ ⟨k1, hk1, hrf, HGR.out⟩
set_option maxRecDepth 100000 in
set_option maxHeartbeats 2000000 in
theorem rvalue_c110 (rb : Nat) (s : ByteArray) (k d : Nat) (w : World) (h : RSt w rb s k d 0) (hk : k ≤ s.size) (hs : s.size ≤ 1000000) (hcase : (blanksL (s.toList.drop k)).head? = some 110)
    (HL : Hid (∀ obj k' w', k < k' → k' ≤ s.size → RSt w' rb s k' d 0 → LCall rb s d obj k' w')) : VCall rb s d k w := by
  have hrb := h.lt
  have hb := get_bt s
  unfold VCall
  obtain ⟨V, hV⟩ : ∃ V, V = valL d (blanksL (s.toList.drop k)) := ⟨_, rfl⟩
  rw [← hV]
  have HV := Lib.hid hV
  have R0 : Hid (RSt (w.alloc (.cells #[.int .i64 0, .int .i64 0, .string ⟨#[]⟩, .slice none 0 0, .slice none 0 0] 27)) rb s k d 0) := h.alloc _
  have Y0 : Hid (Blk (w.alloc (.cells #[.int .i64 0, .int .i64 0, .string ⟨#[]⟩, .slice none 0 0, .slice none 0 0] 27)) w.heap.size 27 #[.int .i64 0, .int .i64 0, .string ⟨#[]⟩, .slice none 0 0, .slice none 0 0]) := Blk.new w _ _
  have G0 : Hid (w.grownBy (w.alloc (.cells #[.int .i64 0, .int .i64 0, .string ⟨#[]⟩, .slice none 0 0, .slice none 0 0] 27)) (some rb)) := World.grownBy_alloc w _ _
  clear h hV
  go_enter Try.func27, Try.ntmps27
  go_wp2_with fail
  refine (rblanks_any rb s k d 0 _ R0.out hk hs).mono ?_; rintro e w1 ⟨rfl, k1, hk1, hd1, h1, g1⟩
  have hkk := blanks_at hd1 hk1 hk
  rw [← hd1] at HV hcase
  have R1 := Lib.hid h1
  have Y1 := Lib.hid (Y0.out.grown g1 (by intro e; injection e with e; omega))
  have G1 := Lib.hid (G0.out.trans g1)
  obtain ⟨c0, c1, c2, c3⟩ := h1.cells4
  have HBD := Lib.hid hd1
  clear h1 g1 hd1 R0 Y0 G0
  have R2 : Hid (∀ n, RSt (w1.drewN n) rb s k1 d 0) := fun n => R1.out
  have Y2 : Hid (∀ n, Blk (w1.drewN n) w.heap.size 27 #[.int .i64 0, .int .i64 0, .string ⟨#[]⟩, .slice none 0 0, .slice none 0 0]) := fun n => Y1.out
  have G2 : Hid (∀ n, w.grownBy (w1.drewN n) (some rb)) := fun n => grown_drewN G1.out _
  have i0 : (0 : Int) ≤ (k1 : Int) := by omega
  obtain ⟨hlt, q110⟩ := head_at.1 hcase
  replace q110 : bt s k1 = 110 := q110
  clear hcase
  have i1 : (k1 : Int) < (s.size : Int) := by omega
  have i2 : decide ((s.size : Int) ≤ (k1 : Int)) = false := decide_eq_false (by omega)
  obtain ⟨u, hu, hd⟩ := drop_cons s k1 hlt
  have HU := Lib.hid hu
  have HD := Lib.hid hd
  have hk11 : k1 + 1 ≤ s.size := by omega
  have HT1 : Hid ((s.toList.drop k1).tail = s.toList.drop (k1 + 1)) := tail_at
  clear hd hu
  go_wp2_with fail
  go_quiet (fail)
  generalize nq = n1 at *
  go_wp2_with fail
  go_quiet (fail)
  go_wp2_with fail
  have R3 := Lib.hid (R2.out (n1 + nq))
  have Y3 := Lib.hid (Y2.out (n1 + nq))
  have G3 := Lib.hid (G2.out (n1 + nq))
  clear c0 c1 c2 c3 R2 Y2 G2 R1 Y1 G1 i1 i2
  generalize w1.drewN (n1 + nq) = w3 at *
  obtain ⟨c0, c1, c2, c3⟩ := R3.out.cells4
  have f9 := R3.out.frozen 1
  have hw3 : w.heap.size < w3.heap.size := Y3.out.lt
  have R4 : Hid (RSt (w3.setCell ⟨rb, 1, none⟩ (.int .i64 ((k1 : Int) + 1))) rb s (k1 + 1) d 0) := by
    have := R3.out.set_ 1 (.int .i64 ((k1 + 1 : Nat) : Int))
    exact this
  have Y4 : Hid (Blk (w3.setCell ⟨rb, 1, none⟩ (.int .i64 ((k1 : Int) + 1))) w.heap.size 27 #[.int .i64 0, .int .i64 0, .string ⟨#[]⟩, .slice none 0 0, .slice none 0 0]) := Y3.out.far (by simp; omega) _
  have G4 : Hid (w.grownBy (w3.setCell ⟨rb, 1, none⟩ (.int .i64 ((k1 : Int) + 1))) (some rb)) := grown_set G3.out 1 _
  have hv := HV.out.trans (valL_n d (head_at.2 ⟨hlt, q110⟩))
  have HW := rword_any rb s k1 d ⟨#[110, 117, 108, 108]⟩ 1 (by decide) w3 R3.out hk1 hs
  clear HL R4 Y4 G4 HV
  by_cases ht : (s.toList.drop k1).take 4 = [110, 117, 108, 108]
  · rw [if_pos ht] at hv
    have E1 := Lib.hid hv
    have HC : Hid (Calls Try.prog 47 #[.pointer (some ⟨rb, 0, none⟩), .string ⟨#[110, 117, 108, 108]⟩, .int .i64 1] w3 (fun e w' => e = .returned (.agg #[.int .i64 1, .int .i64 0, .string ⟨#[]⟩, .slice none 0 0, .slice none 0 0]) ∧ RTo rb s d ((s.toList.drop k1).drop 4) w3 w')) := HW.mono (fun e w' hh => by
      unfold WordEnd at hh
      rw [if_pos (show (s.toList.drop k1).take (⟨#[110, 117, 108, 108]⟩ : ByteArray).size = (⟨#[110, 117, 108, 108]⟩ : ByteArray).toList by rw [lit_toList [110, 117, 108, 108]]; exact ht)] at hh
      exact hh)
    clear hv ht HW
    go_wp2_with fail
    refine HC.out.mono ?_; rintro e w9 ⟨rfl, k9, hk9, hd9, h9, g9⟩
    have D9 := Lib.hid hd9
    have R9 := Lib.hid h9
    have Y9 := Lib.hid (Y3.out.grown g9 (by intro e; injection e with e; omega))
    have G9 := Lib.hid (G3.out.trans g9)
    clear h9 g9
    clear c0 c1 c2 c3 f9 hd9
    obtain ⟨z0, z1, z2, z3, z4⟩ := Y9.out.cells5
    have f0 := Y9.out.frozen 0
    have f1 := Y9.out.frozen 1
    have f2 := Y9.out.frozen 2
    have f3 := Y9.out.frozen 3
    have f4 := Y9.out.frozen 4
    obtain ⟨hfin, hgr, hsz, hot⟩ := laid5 Y9.out G9.out (Nat.le_refl _) (.int .i64 1) (.int .i64 0) (.string ⟨#[]⟩) (.slice none 0 0) (.slice none 0 0)
    have HFIN := Lib.hid hfin; have HGR := Lib.hid hgr; have HSZ := Lib.hid hsz; have HOT := Lib.hid hot
    clear hfin hgr hsz hot
    go_wp2_with fail
    clear f0 f1 f2 f3 f4 z0 z1 z2 z3 z4
    generalize (((((w9.setCell ⟨w.heap.size, 0, none⟩ (.int .i64 1)).setCell ⟨w.heap.size, 1, none⟩ (.int .i64 0)).setCell ⟨w.heap.size, 2, none⟩ (.string ⟨#[]⟩)).setCell ⟨w.heap.size, 3, none⟩ (.slice none 0 0)).setCell ⟨w.heap.size, 4, none⟩ (.slice none 0 0)) = WF at *
    obtain ⟨q0, q1, q2, q3, q4⟩ := HFIN.out.cells5
    refine bodyPost_ret (v := .agg #[.int .i64 1, .int .i64 0, .string ⟨#[]⟩, .slice none 0 0, .slice none 0 0]) (by simp [results, Try.results27, go_sem, q0, q1, q2, q3, q4]) rfl ?_
    have hrf : RSt WF rb s k9 d 0 := (HOT.out rb (by omega)).trans R9.out
    exact RVal.yes E1.out ⟨_, _, _, _, _, _, _, _, _, rfl, nd_plain 1 0 ⟨#[]⟩ (by unfold I64; omega) (by unfold I64; omega) (by decide)⟩ ⟨k9, hk9, D9.out, hrf, HGR.out⟩
  · rw [if_neg ht] at hv
    have E1 := Lib.hid hv
    have HC : Hid (Calls Try.prog 47 #[.pointer (some ⟨rb, 0, none⟩), .string ⟨#[110, 117, 108, 108]⟩, .int .i64 1] w3 (fun e w' => e = .returned (.agg #[.int .i64 1, .int .i64 0, .string ⟨#[]⟩, .slice none 0 0, .slice none 0 0]) ∧ RBad rb s d 3 w3 w')) := HW.mono (fun e w' hh => by
      unfold WordEnd at hh
      rw [if_neg (show ¬ (s.toList.drop k1).take (⟨#[110, 117, 108, 108]⟩ : ByteArray).size = (⟨#[110, 117, 108, 108]⟩ : ByteArray).toList by rw [lit_toList [110, 117, 108, 108]]; exact ht)] at hh
      exact hh)
    clear hv ht HW
    go_wp2_with fail
    refine HC.out.mono ?_; rintro e w9 ⟨rfl, k9, hk9, h9, g9⟩
    have R9 := Lib.hid h9
    have Y9 := Lib.hid (Y3.out.grown g9 (by intro e; injection e with e; omega))
    have G9 := Lib.hid (G3.out.trans g9)
    clear h9 g9
    clear c0 c1 c2 c3 f9
    obtain ⟨z0, z1, z2, z3, z4⟩ := Y9.out.cells5
    have f0 := Y9.out.frozen 0
    have f1 := Y9.out.frozen 1
    have f2 := Y9.out.frozen 2
    have f3 := Y9.out.frozen 3
    have f4 := Y9.out.frozen 4
    obtain ⟨hfin, hgr, hsz, hot⟩ := laid5 Y9.out G9.out (Nat.le_refl _) (.int .i64 1) (.int .i64 0) (.string ⟨#[]⟩) (.slice none 0 0) (.slice none 0 0)
    have HFIN := Lib.hid hfin; have HGR := Lib.hid hgr; have HSZ := Lib.hid hsz; have HOT := Lib.hid hot
    clear hfin hgr hsz hot
    go_wp2_with fail
    clear f0 f1 f2 f3 f4 z0 z1 z2 z3 z4
    generalize (((((w9.setCell ⟨w.heap.size, 0, none⟩ (.int .i64 1)).setCell ⟨w.heap.size, 1, none⟩ (.int .i64 0)).setCell ⟨w.heap.size, 2, none⟩ (.string ⟨#[]⟩)).setCell ⟨w.heap.size, 3, none⟩ (.slice none 0 0)).setCell ⟨w.heap.size, 4, none⟩ (.slice none 0 0)) = WF at *
    obtain ⟨q0, q1, q2, q3, q4⟩ := HFIN.out.cells5
    refine bodyPost_ret (v := .agg #[.int .i64 1, .int .i64 0, .string ⟨#[]⟩, .slice none 0 0, .slice none 0 0]) (by simp [results, Try.results27, go_sem, q0, q1, q2, q3, q4]) rfl ?_
    have hrf : RSt WF rb s k9 d 3 := (HOT.out rb (by omega)).trans R9.out
    exact RVal.no E1.out ⟨_, _, _, _, _, _, _, _, _, rfl⟩ ⟨k9, hk9, hrf, HGR.out⟩
set_option maxRecDepth 100000 in
set_option maxHeartbeats 2000000 in
theorem rvalue_c102 (rb : Nat) (s : ByteArray) (k d : Nat) (w : World) (h : RSt w rb s k d 0) (hk : k ≤ s.size) (hs : s.size ≤ 1000000) (hcase : (blanksL (s.toList.drop k)).head? = some 102)
    (HL : Hid (∀ obj k' w', k < k' → k' ≤ s.size → RSt w' rb s k' d 0 → LCall rb s d obj k' w')) : VCall rb s d k w := by
  have hrb := h.lt
  have hb := get_bt s
  unfold VCall
  obtain ⟨V, hV⟩ : ∃ V, V = valL d (blanksL (s.toList.drop k)) := ⟨_, rfl⟩
  rw [← hV]
  have HV := Lib.hid hV
  have R0 : Hid (RSt (w.alloc (.cells #[.int .i64 0, .int .i64 0, .string ⟨#[]⟩, .slice none 0 0, .slice none 0 0] 27)) rb s k d 0) := h.alloc _
  have Y0 : Hid (Blk (w.alloc (.cells #[.int .i64 0, .int .i64 0, .string ⟨#[]⟩, .slice none 0 0, .slice none 0 0] 27)) w.heap.size 27 #[.int .i64 0, .int .i64 0, .string ⟨#[]⟩, .slice none 0 0, .slice none 0 0]) := Blk.new w _ _
  have G0 : Hid (w.grownBy (w.alloc (.cells #[.int .i64 0, .int .i64 0, .string ⟨#[]⟩, .slice none 0 0, .slice none 0 0] 27)) (some rb)) := World.grownBy_alloc w _ _
  clear h hV
  go_enter Try.func27, Try.ntmps27
  go_wp2_with fail
  refine (rblanks_any rb s k d 0 _ R0.out hk hs).mono ?_; rintro e w1 ⟨rfl, k1, hk1, hd1, h1, g1⟩
  have hkk := blanks_at hd1 hk1 hk
  rw [← hd1] at HV hcase
  have R1 := Lib.hid h1
  have Y1 := Lib.hid (Y0.out.grown g1 (by intro e; injection e with e; omega))
  have G1 := Lib.hid (G0.out.trans g1)
  obtain ⟨c0, c1, c2, c3⟩ := h1.cells4
  have HBD := Lib.hid hd1
  clear h1 g1 hd1 R0 Y0 G0
  have R2 : Hid (∀ n, RSt (w1.drewN n) rb s k1 d 0) := fun n => R1.out
  have Y2 : Hid (∀ n, Blk (w1.drewN n) w.heap.size 27 #[.int .i64 0, .int .i64 0, .string ⟨#[]⟩, .slice none 0 0, .slice none 0 0]) := fun n => Y1.out
  have G2 : Hid (∀ n, w.grownBy (w1.drewN n) (some rb)) := fun n => grown_drewN G1.out _
  have i0 : (0 : Int) ≤ (k1 : Int) := by omega
  obtain ⟨hlt, q102⟩ := head_at.1 hcase
  replace q102 : bt s k1 = 102 := q102
  clear hcase
  have i1 : (k1 : Int) < (s.size : Int) := by omega
  have i2 : decide ((s.size : Int) ≤ (k1 : Int)) = false := decide_eq_false (by omega)
  obtain ⟨u, hu, hd⟩ := drop_cons s k1 hlt
  have HU := Lib.hid hu
  have HD := Lib.hid hd
  have hk11 : k1 + 1 ≤ s.size := by omega
  have HT1 : Hid ((s.toList.drop k1).tail = s.toList.drop (k1 + 1)) := tail_at
  clear hd hu
  go_wp2_with fail
  go_quiet (fail)
  generalize nq = n1 at *
  go_wp2_with fail
  go_quiet (fail)
  go_wp2_with fail
  have R3 := Lib.hid (R2.out (n1 + nq))
  have Y3 := Lib.hid (Y2.out (n1 + nq))
  have G3 := Lib.hid (G2.out (n1 + nq))
  clear c0 c1 c2 c3 R2 Y2 G2 R1 Y1 G1 i1 i2
  generalize w1.drewN (n1 + nq) = w3 at *
  obtain ⟨c0, c1, c2, c3⟩ := R3.out.cells4
  have f9 := R3.out.frozen 1
  have hw3 : w.heap.size < w3.heap.size := Y3.out.lt
  have R4 : Hid (RSt (w3.setCell ⟨rb, 1, none⟩ (.int .i64 ((k1 : Int) + 1))) rb s (k1 + 1) d 0) := by
    have := R3.out.set_ 1 (.int .i64 ((k1 + 1 : Nat) : Int))
    exact this
  have Y4 : Hid (Blk (w3.setCell ⟨rb, 1, none⟩ (.int .i64 ((k1 : Int) + 1))) w.heap.size 27 #[.int .i64 0, .int .i64 0, .string ⟨#[]⟩, .slice none 0 0, .slice none 0 0]) := Y3.out.far (by simp; omega) _
  have G4 : Hid (w.grownBy (w3.setCell ⟨rb, 1, none⟩ (.int .i64 ((k1 : Int) + 1))) (some rb)) := grown_set G3.out 1 _
  have hv := HV.out.trans (valL_f d (head_at.2 ⟨hlt, q102⟩))
  have HW := rword_any rb s k1 d ⟨#[102, 97, 108, 115, 101]⟩ 2 (by decide) w3 R3.out hk1 hs
  clear HL R4 Y4 G4 HV
  by_cases ht : (s.toList.drop k1).take 5 = [102, 97, 108, 115, 101]
  · rw [if_pos ht] at hv
    have E1 := Lib.hid hv
    have HC : Hid (Calls Try.prog 47 #[.pointer (some ⟨rb, 0, none⟩), .string ⟨#[102, 97, 108, 115, 101]⟩, .int .i64 2] w3 (fun e w' => e = .returned (.agg #[.int .i64 2, .int .i64 0, .string ⟨#[]⟩, .slice none 0 0, .slice none 0 0]) ∧ RTo rb s d ((s.toList.drop k1).drop 5) w3 w')) := HW.mono (fun e w' hh => by
      unfold WordEnd at hh
      rw [if_pos (show (s.toList.drop k1).take (⟨#[102, 97, 108, 115, 101]⟩ : ByteArray).size = (⟨#[102, 97, 108, 115, 101]⟩ : ByteArray).toList by rw [lit_toList [102, 97, 108, 115, 101]]; exact ht)] at hh
      exact hh)
    clear hv ht HW
    go_wp2_with fail
    refine HC.out.mono ?_; rintro e w9 ⟨rfl, k9, hk9, hd9, h9, g9⟩
    have D9 := Lib.hid hd9
    have R9 := Lib.hid h9
    have Y9 := Lib.hid (Y3.out.grown g9 (by intro e; injection e with e; omega))
    have G9 := Lib.hid (G3.out.trans g9)
    clear h9 g9
    clear c0 c1 c2 c3 f9 hd9
    obtain ⟨z0, z1, z2, z3, z4⟩ := Y9.out.cells5
    have f0 := Y9.out.frozen 0
    have f1 := Y9.out.frozen 1
    have f2 := Y9.out.frozen 2
    have f3 := Y9.out.frozen 3
    have f4 := Y9.out.frozen 4
    obtain ⟨hfin, hgr, hsz, hot⟩ := laid5 Y9.out G9.out (Nat.le_refl _) (.int .i64 2) (.int .i64 0) (.string ⟨#[]⟩) (.slice none 0 0) (.slice none 0 0)
    have HFIN := Lib.hid hfin; have HGR := Lib.hid hgr; have HSZ := Lib.hid hsz; have HOT := Lib.hid hot
    clear hfin hgr hsz hot
    go_wp2_with fail
    clear f0 f1 f2 f3 f4 z0 z1 z2 z3 z4
    generalize (((((w9.setCell ⟨w.heap.size, 0, none⟩ (.int .i64 2)).setCell ⟨w.heap.size, 1, none⟩ (.int .i64 0)).setCell ⟨w.heap.size, 2, none⟩ (.string ⟨#[]⟩)).setCell ⟨w.heap.size, 3, none⟩ (.slice none 0 0)).setCell ⟨w.heap.size, 4, none⟩ (.slice none 0 0)) = WF at *
    obtain ⟨q0, q1, q2, q3, q4⟩ := HFIN.out.cells5
    refine bodyPost_ret (v := .agg #[.int .i64 2, .int .i64 0, .string ⟨#[]⟩, .slice none 0 0, .slice none 0 0]) (by simp [results, Try.results27, go_sem, q0, q1, q2, q3, q4]) rfl ?_
    have hrf : RSt WF rb s k9 d 0 := (HOT.out rb (by omega)).trans R9.out
    exact RVal.yes E1.out ⟨_, _, _, _, _, _, _, _, _, rfl, nd_plain 2 0 ⟨#[]⟩ (by unfold I64; omega) (by unfold I64; omega) (by decide)⟩ ⟨k9, hk9, D9.out, hrf, HGR.out⟩
  · rw [if_neg ht] at hv
    have E1 := Lib.hid hv
    have HC : Hid (Calls Try.prog 47 #[.pointer (some ⟨rb, 0, none⟩), .string ⟨#[102, 97, 108, 115, 101]⟩, .int .i64 2] w3 (fun e w' => e = .returned (.agg #[.int .i64 2, .int .i64 0, .string ⟨#[]⟩, .slice none 0 0, .slice none 0 0]) ∧ RBad rb s d 3 w3 w')) := HW.mono (fun e w' hh => by
      unfold WordEnd at hh
      rw [if_neg (show ¬ (s.toList.drop k1).take (⟨#[102, 97, 108, 115, 101]⟩ : ByteArray).size = (⟨#[102, 97, 108, 115, 101]⟩ : ByteArray).toList by rw [lit_toList [102, 97, 108, 115, 101]]; exact ht)] at hh
      exact hh)
    clear hv ht HW
    go_wp2_with fail
    refine HC.out.mono ?_; rintro e w9 ⟨rfl, k9, hk9, h9, g9⟩
    have R9 := Lib.hid h9
    have Y9 := Lib.hid (Y3.out.grown g9 (by intro e; injection e with e; omega))
    have G9 := Lib.hid (G3.out.trans g9)
    clear h9 g9
    clear c0 c1 c2 c3 f9
    obtain ⟨z0, z1, z2, z3, z4⟩ := Y9.out.cells5
    have f0 := Y9.out.frozen 0
    have f1 := Y9.out.frozen 1
    have f2 := Y9.out.frozen 2
    have f3 := Y9.out.frozen 3
    have f4 := Y9.out.frozen 4
    obtain ⟨hfin, hgr, hsz, hot⟩ := laid5 Y9.out G9.out (Nat.le_refl _) (.int .i64 2) (.int .i64 0) (.string ⟨#[]⟩) (.slice none 0 0) (.slice none 0 0)
    have HFIN := Lib.hid hfin; have HGR := Lib.hid hgr; have HSZ := Lib.hid hsz; have HOT := Lib.hid hot
    clear hfin hgr hsz hot
    go_wp2_with fail
    clear f0 f1 f2 f3 f4 z0 z1 z2 z3 z4
    generalize (((((w9.setCell ⟨w.heap.size, 0, none⟩ (.int .i64 2)).setCell ⟨w.heap.size, 1, none⟩ (.int .i64 0)).setCell ⟨w.heap.size, 2, none⟩ (.string ⟨#[]⟩)).setCell ⟨w.heap.size, 3, none⟩ (.slice none 0 0)).setCell ⟨w.heap.size, 4, none⟩ (.slice none 0 0)) = WF at *
    obtain ⟨q0, q1, q2, q3, q4⟩ := HFIN.out.cells5
    refine bodyPost_ret (v := .agg #[.int .i64 2, .int .i64 0, .string ⟨#[]⟩, .slice none 0 0, .slice none 0 0]) (by simp [results, Try.results27, go_sem, q0, q1, q2, q3, q4]) rfl ?_
    have hrf : RSt WF rb s k9 d 3 := (HOT.out rb (by omega)).trans R9.out
    exact RVal.no E1.out ⟨_, _, _, _, _, _, _, _, _, rfl⟩ ⟨k9, hk9, hrf, HGR.out⟩
end Go.Proofs.Ytnhoecmcbikcnaa
/-! The reference's reader: a value. -/
namespace Go.Proofs.Ytnhoecmcbikcnaa
open Go.RowKit Go.PlainAid
set_option linter.unusedVariables false
set_option linter.unusedSimpArgs false
set_option maxRecDepth 100000 in
set_option maxHeartbeats 8000000 in
theorem rvalue_c116 (rb : Nat) (s : ByteArray) (k d : Nat) (w : World) (h : RSt w rb s k d 0) (hk : k ≤ s.size) (hs : s.size ≤ 1000000) (hcase : (blanksL (s.toList.drop k)).head? = some 116)
    (HL : Hid (∀ obj k' w', k < k' → k' ≤ s.size → RSt w' rb s k' d 0 → LCall rb s d obj k' w')) : VCall rb s d k w := by
  have hrb := h.lt
  have hb := get_bt s
  unfold VCall
  obtain ⟨V, hV⟩ : ∃ V, V = valL d (blanksL (s.toList.drop k)) := ⟨_, rfl⟩
  rw [← hV]
  have HV := Lib.hid hV
  have R0 : Hid (RSt (w.alloc (.cells #[.int .i64 0, .int .i64 0, .string ⟨#[]⟩, .slice none 0 0, .slice none 0 0] 27)) rb s k d 0) := h.alloc _
  have Y0 : Hid (Blk (w.alloc (.cells #[.int .i64 0, .int .i64 0, .string ⟨#[]⟩, .slice none 0 0, .slice none 0 0] 27)) w.heap.size 27 #[.int .i64 0, .int .i64 0, .string ⟨#[]⟩, .slice none 0 0, .slice none 0 0]) := Blk.new w _ _
  have G0 : Hid (w.grownBy (w.alloc (.cells #[.int .i64 0, .int .i64 0, .string ⟨#[]⟩, .slice none 0 0, .slice none 0 0] 27)) (some rb)) := World.grownBy_alloc w _ _
  clear h hV
  go_enter Try.func27, Try.ntmps27
  go_wp2_with fail
  refine (rblanks_any rb s k d 0 _ R0.out hk hs).mono ?_; rintro e w1 ⟨rfl, k1, hk1, hd1, h1, g1⟩
  have hkk := blanks_at hd1 hk1 hk
  rw [← hd1] at HV hcase
  have R1 := Lib.hid h1
  have Y1 := Lib.hid (Y0.out.grown g1 (by intro e; injection e with e; omega))
  have G1 := Lib.hid (G0.out.trans g1)
  obtain ⟨c0, c1, c2, c3⟩ := h1.cells4
  have HBD := Lib.hid hd1
  clear h1 g1 hd1 R0 Y0 G0
  have R2 : Hid (∀ n, RSt (w1.drewN n) rb s k1 d 0) := fun n => R1.out
  have Y2 : Hid (∀ n, Blk (w1.drewN n) w.heap.size 27 #[.int .i64 0, .int .i64 0, .string ⟨#[]⟩, .slice none 0 0, .slice none 0 0]) := fun n => Y1.out
  have G2 : Hid (∀ n, w.grownBy (w1.drewN n) (some rb)) := fun n => grown_drewN G1.out _
  have i0 : (0 : Int) ≤ (k1 : Int) := by omega
  obtain ⟨hlt, q116⟩ := head_at.1 hcase
  replace q116 : bt s k1 = 116 := q116
  clear hcase
  have i1 : (k1 : Int) < (s.size : Int) := by omega
  have i2 : decide ((s.size : Int) ≤ (k1 : Int)) = false := decide_eq_false (by omega)
  obtain ⟨u, hu, hd⟩ := drop_cons s k1 hlt
  have HU := Lib.hid hu
  have HD := Lib.hid hd
  have hk11 : k1 + 1 ≤ s.size := by omega
  have HT1 : Hid ((s.toList.drop k1).tail = s.toList.drop (k1 + 1)) := tail_at
  clear hd hu
  have f8 := R1.out.frozen 1
  go_wp2_with fail
  go_quiet (fail)
  generalize nq = n1 at *
  go_wp2_with fail
  go_quiet (fail)
  go_wp2_with fail
  have R3 := Lib.hid (R2.out (n1 + nq))
  have Y3 := Lib.hid (Y2.out (n1 + nq))
  have G3 := Lib.hid (G2.out (n1 + nq))
  clear c0 c1 c2 c3 f8 R2 Y2 G2 R1 Y1 G1 i1 i2
  generalize w1.drewN (n1 + nq) = w3 at *
  obtain ⟨c0, c1, c2, c3⟩ := R3.out.cells4
  have f9 := R3.out.frozen 1
  have hw3 : w.heap.size < w3.heap.size := Y3.out.lt
  have R4 : Hid (RSt (w3.setCell ⟨rb, 1, none⟩ (.int .i64 ((k1 : Int) + 1))) rb s (k1 + 1) d 0) := by
    have := R3.out.set_ 1 (.int .i64 ((k1 + 1 : Nat) : Int))
    exact this
  have Y4 : Hid (Blk (w3.setCell ⟨rb, 1, none⟩ (.int .i64 ((k1 : Int) + 1))) w.heap.size 27 #[.int .i64 0, .int .i64 0, .string ⟨#[]⟩, .slice none 0 0, .slice none 0 0]) := Y3.out.far (by simp; omega) _
  have G4 : Hid (w.grownBy (w3.setCell ⟨rb, 1, none⟩ (.int .i64 ((k1 : Int) + 1))) (some rb)) := grown_set G3.out 1 _
  have hv := HV.out.trans (valL_t d (head_at.2 ⟨hlt, q116⟩))
  have HW := rword_any rb s k1 d ⟨#[116, 114, 117, 101]⟩ 3 (by decide) w3 R3.out hk1 hs
  clear HL R4 Y4 G4 HV
  by_cases ht : (s.toList.drop k1).take 4 = [116, 114, 117, 101]
  · rw [if_pos ht] at hv
    have E1 := Lib.hid hv
    have HC : Hid (Calls Try.prog 47 #[.pointer (some ⟨rb, 0, none⟩), .string ⟨#[116, 114, 117, 101]⟩, .int .i64 3] w3 (fun e w' => e = .returned (.agg #[.int .i64 3, .int .i64 0, .string ⟨#[]⟩, .slice none 0 0, .slice none 0 0]) ∧ RTo rb s d ((s.toList.drop k1).drop 4) w3 w')) := HW.mono (fun e w' hh => by
      unfold WordEnd at hh
      rw [if_pos (show (s.toList.drop k1).take (⟨#[116, 114, 117, 101]⟩ : ByteArray).size = (⟨#[116, 114, 117, 101]⟩ : ByteArray).toList by rw [lit_toList [116, 114, 117, 101]]; exact ht)] at hh
      exact hh)
    clear hv ht HW
    go_wp2_with fail
    refine HC.out.mono ?_; rintro e w9 ⟨rfl, k9, hk9, hd9, h9, g9⟩
    have D9 := Lib.hid hd9
    have R9 := Lib.hid h9
    have Y9 := Lib.hid (Y3.out.grown g9 (by intro e; injection e with e; omega))
    have G9 := Lib.hid (G3.out.trans g9)
    clear h9 g9
    clear c0 c1 c2 c3 f9 hd9
    obtain ⟨z0, z1, z2, z3, z4⟩ := Y9.out.cells5
    have f0 := Y9.out.frozen 0
    have f1 := Y9.out.frozen 1
    have f2 := Y9.out.frozen 2
    have f3 := Y9.out.frozen 3
    have f4 := Y9.out.frozen 4
    obtain ⟨hfin, hgr, hsz, hot⟩ := laid5 Y9.out G9.out (Nat.le_refl _) (.int .i64 3) (.int .i64 0) (.string ⟨#[]⟩) (.slice none 0 0) (.slice none 0 0)
    have HFIN := Lib.hid hfin; have HGR := Lib.hid hgr; have HSZ := Lib.hid hsz; have HOT := Lib.hid hot
    clear hfin hgr hsz hot
    go_wp2_with fail
    clear f0 f1 f2 f3 f4 z0 z1 z2 z3 z4
    generalize (((((w9.setCell ⟨w.heap.size, 0, none⟩ (.int .i64 3)).setCell ⟨w.heap.size, 1, none⟩ (.int .i64 0)).setCell ⟨w.heap.size, 2, none⟩ (.string ⟨#[]⟩)).setCell ⟨w.heap.size, 3, none⟩ (.slice none 0 0)).setCell ⟨w.heap.size, 4, none⟩ (.slice none 0 0)) = WF at *
    obtain ⟨q0, q1, q2, q3, q4⟩ := HFIN.out.cells5
    refine bodyPost_ret (v := .agg #[.int .i64 3, .int .i64 0, .string ⟨#[]⟩, .slice none 0 0, .slice none 0 0]) (by simp [results, Try.results27, go_sem, q0, q1, q2, q3, q4]) rfl ?_
    have hrf : RSt WF rb s k9 d 0 := (HOT.out rb (by omega)).trans R9.out
    exact RVal.yes E1.out ⟨_, _, _, _, _, _, _, _, _, rfl, nd_plain 3 0 ⟨#[]⟩ (by unfold I64; omega) (by unfold I64; omega) (by decide)⟩ ⟨k9, hk9, D9.out, hrf, HGR.out⟩
  · rw [if_neg ht] at hv
    have E1 := Lib.hid hv
    have HC : Hid (Calls Try.prog 47 #[.pointer (some ⟨rb, 0, none⟩), .string ⟨#[116, 114, 117, 101]⟩, .int .i64 3] w3 (fun e w' => e = .returned (.agg #[.int .i64 3, .int .i64 0, .string ⟨#[]⟩, .slice none 0 0, .slice none 0 0]) ∧ RBad rb s d 3 w3 w')) := HW.mono (fun e w' hh => by
      unfold WordEnd at hh
      rw [if_neg (show ¬ (s.toList.drop k1).take (⟨#[116, 114, 117, 101]⟩ : ByteArray).size = (⟨#[116, 114, 117, 101]⟩ : ByteArray).toList by rw [lit_toList [116, 114, 117, 101]]; exact ht)] at hh
      exact hh)
    clear hv ht HW
    go_wp2_with fail
    refine HC.out.mono ?_; rintro e w9 ⟨rfl, k9, hk9, h9, g9⟩
    have R9 := Lib.hid h9
    have Y9 := Lib.hid (Y3.out.grown g9 (by intro e; injection e with e; omega))
    have G9 := Lib.hid (G3.out.trans g9)
    clear h9 g9
    clear c0 c1 c2 c3 f9
    obtain ⟨z0, z1, z2, z3, z4⟩ := Y9.out.cells5
    have f0 := Y9.out.frozen 0
    have f1 := Y9.out.frozen 1
    have f2 := Y9.out.frozen 2
    have f3 := Y9.out.frozen 3
    have f4 := Y9.out.frozen 4
    obtain ⟨hfin, hgr, hsz, hot⟩ := laid5 Y9.out G9.out (Nat.le_refl _) (.int .i64 3) (.int .i64 0) (.string ⟨#[]⟩) (.slice none 0 0) (.slice none 0 0)
    have HFIN := Lib.hid hfin; have HGR := Lib.hid hgr; have HSZ := Lib.hid hsz; have HOT := Lib.hid hot
    clear hfin hgr hsz hot
    go_wp2_with fail
    clear f0 f1 f2 f3 f4 z0 z1 z2 z3 z4
    generalize (((((w9.setCell ⟨w.heap.size, 0, none⟩ (.int .i64 3)).setCell ⟨w.heap.size, 1, none⟩ (.int .i64 0)).setCell ⟨w.heap.size, 2, none⟩ (.string ⟨#[]⟩)).setCell ⟨w.heap.size, 3, none⟩ (.slice none 0 0)).setCell ⟨w.heap.size, 4, none⟩ (.slice none 0 0)) = WF at *
    obtain ⟨q0, q1, q2, q3, q4⟩ := HFIN.out.cells5
    refine bodyPost_ret (v := .agg #[.int .i64 3, .int .i64 0, .string ⟨#[]⟩, .slice none 0 0, .slice none 0 0]) (by simp [results, Try.results27, go_sem, q0, q1, q2, q3, q4]) rfl ?_
    have hrf : RSt WF rb s k9 d 3 := (HOT.out rb (by omega)).trans R9.out
    exact RVal.no E1.out ⟨_, _, _, _, _, _, _, _, _, rfl⟩ ⟨k9, hk9, hrf, HGR.out⟩
set_option maxRecDepth 100000 in
set_option maxHeartbeats 8000000 in
theorem rvalue_c34 (rb : Nat) (s : ByteArray) (k d : Nat) (w : World) (h : RSt w rb s k d 0) (hk : k ≤ s.size) (hs : s.size ≤ 1000000) (hcase : (blanksL (s.toList.drop k)).head? = some 34)
    (HL : Hid (∀ obj k' w', k < k' → k' ≤ s.size → RSt w' rb s k' d 0 → LCall rb s d obj k' w')) : VCall rb s d k w := by
  have hrb := h.lt
  have hb := get_bt s
  unfold VCall
  obtain ⟨V, hV⟩ : ∃ V, V = valL d (blanksL (s.toList.drop k)) := ⟨_, rfl⟩
  rw [← hV]
  have HV := Lib.hid hV
  have R0 : Hid (RSt (w.alloc (.cells #[.int .i64 0, .int .i64 0, .string ⟨#[]⟩, .slice none 0 0, .slice none 0 0] 27)) rb s k d 0) := h.alloc _
  have Y0 : Hid (Blk (w.alloc (.cells #[.int .i64 0, .int .i64 0, .string ⟨#[]⟩, .slice none 0 0, .slice none 0 0] 27)) w.heap.size 27 #[.int .i64 0, .int .i64 0, .string ⟨#[]⟩, .slice none 0 0, .slice none 0 0]) := Blk.new w _ _
  have G0 : Hid (w.grownBy (w.alloc (.cells #[.int .i64 0, .int .i64 0, .string ⟨#[]⟩, .slice none 0 0, .slice none 0 0] 27)) (some rb)) := World.grownBy_alloc w _ _
  clear h hV
  go_enter Try.func27, Try.ntmps27
  go_wp2_with fail
  refine (rblanks_any rb s k d 0 _ R0.out hk hs).mono ?_; rintro e w1 ⟨rfl, k1, hk1, hd1, h1, g1⟩
  have hkk := blanks_at hd1 hk1 hk
  rw [← hd1] at HV hcase
  have R1 := Lib.hid h1
  have Y1 := Lib.hid (Y0.out.grown g1 (by intro e; injection e with e; omega))
  have G1 := Lib.hid (G0.out.trans g1)
  obtain ⟨c0, c1, c2, c3⟩ := h1.cells4
  have HBD := Lib.hid hd1
  clear h1 g1 hd1 R0 Y0 G0
  have R2 : Hid (∀ n, RSt (w1.drewN n) rb s k1 d 0) := fun n => R1.out
  have Y2 : Hid (∀ n, Blk (w1.drewN n) w.heap.size 27 #[.int .i64 0, .int .i64 0, .string ⟨#[]⟩, .slice none 0 0, .slice none 0 0]) := fun n => Y1.out
  have G2 : Hid (∀ n, w.grownBy (w1.drewN n) (some rb)) := fun n => grown_drewN G1.out _
  have i0 : (0 : Int) ≤ (k1 : Int) := by omega
  obtain ⟨hlt, q34⟩ := head_at.1 hcase
  replace q34 : bt s k1 = 34 := q34
  clear hcase
  have i1 : (k1 : Int) < (s.size : Int) := by omega
  have i2 : decide ((s.size : Int) ≤ (k1 : Int)) = false := decide_eq_false (by omega)
  obtain ⟨u, hu, hd⟩ := drop_cons s k1 hlt
  have HU := Lib.hid hu
  have HD := Lib.hid hd
  have hk11 : k1 + 1 ≤ s.size := by omega
  have HT1 : Hid ((s.toList.drop k1).tail = s.toList.drop (k1 + 1)) := tail_at
  clear hd hu
  have f8 := R1.out.frozen 1
  go_wp2_with fail
  go_quiet (fail)
  generalize nq = n1 at *
  go_wp2_with fail
  go_quiet (fail)
  go_wp2_with fail
  have R3 := Lib.hid (R2.out (n1 + nq))
  have Y3 := Lib.hid (Y2.out (n1 + nq))
  have G3 := Lib.hid (G2.out (n1 + nq))
  clear c0 c1 c2 c3 f8 R2 Y2 G2 R1 Y1 G1 i1 i2
  generalize w1.drewN (n1 + nq) = w3 at *
  obtain ⟨c0, c1, c2, c3⟩ := R3.out.cells4
  have f9 := R3.out.frozen 1
  have hw3 : w.heap.size < w3.heap.size := Y3.out.lt
  have R4 : Hid (RSt (w3.setCell ⟨rb, 1, none⟩ (.int .i64 ((k1 : Int) + 1))) rb s (k1 + 1) d 0) := by
    have := R3.out.set_ 1 (.int .i64 ((k1 + 1 : Nat) : Int))
    exact this
  have Y4 : Hid (Blk (w3.setCell ⟨rb, 1, none⟩ (.int .i64 ((k1 : Int) + 1))) w.heap.size 27 #[.int .i64 0, .int .i64 0, .string ⟨#[]⟩, .slice none 0 0, .slice none 0 0]) := Y3.out.far (by simp; omega) _
  have G4 : Hid (w.grownBy (w3.setCell ⟨rb, 1, none⟩ (.int .i64 ((k1 : Int) + 1))) (some rb)) := grown_set G3.out 1 _
  have hv := HV.out.trans (valL_str d _ (head_at.2 ⟨hlt, q34⟩))
  rw [textL_at rfl ⟨hlt, q34⟩] at hv
  have HT := rtext_any rb s (k1 + 1) d _ R4.out hk11 hs
  have HSZ2 : Hid (∀ b r, textT (s.toList.drop (k1 + 1)) [] = some (b, r) → b.length ≤ 4000000) := fun b r h => key_size (s := s) (j := k) (b := b) (r := r) (by rw [← HBD.out, textL_at rfl ⟨hlt, q34⟩]; exact h) hs
  clear HL HV
  cases hq : textT (s.toList.drop (k1 + 1)) [] with
  | none =>
    rw [hq] at HT hv
    have HC := Lib.hid (show Calls Try.prog 48 #[.pointer (some ⟨rb, 0, none⟩)] _ (fun e w' => e = .returned (.string ⟨#[]⟩) ∧ RBad rb s d 3 _ w') from HT)
    have E1 : Hid (V = .error 3) := hv
    clear HT hv hq HSZ2
    go_wp2_with fail
    refine HC.out.mono ?_; rintro e w9 ⟨rfl, k9, hk9, h9, g9⟩
    have R9 := Lib.hid h9
    have Y9 := Lib.hid (Y4.out.grown g9 (by intro e; injection e with e; omega))
    have G9 := Lib.hid (G4.out.trans g9)
    clear h9 g9
    clear c0 c1 c2 c3 f9
    obtain ⟨z0, z1, z2, z3, z4⟩ := Y9.out.cells5
    have f0 := Y9.out.frozen 0
    have f1 := Y9.out.frozen 1
    have f2 := Y9.out.frozen 2
    have f3 := Y9.out.frozen 3
    have f4 := Y9.out.frozen 4
    obtain ⟨hfin, hgr, hsz, hot⟩ := laid5 Y9.out G9.out (Nat.le_refl _) (.int .i64 5) (.int .i64 0) (.string ⟨#[]⟩) (.slice none 0 0) (.slice none 0 0)
    have HFIN := Lib.hid hfin; have HGR := Lib.hid hgr; have HSZ := Lib.hid hsz; have HOT := Lib.hid hot
    clear hfin hgr hsz hot
    go_wp2_with fail
    clear f0 f1 f2 f3 f4 z0 z1 z2 z3 z4
    generalize (((((w9.setCell ⟨w.heap.size, 0, none⟩ (.int .i64 5)).setCell ⟨w.heap.size, 1, none⟩ (.int .i64 0)).setCell ⟨w.heap.size, 2, none⟩ (.string ⟨#[]⟩)).setCell ⟨w.heap.size, 3, none⟩ (.slice none 0 0)).setCell ⟨w.heap.size, 4, none⟩ (.slice none 0 0)) = WF at *
    obtain ⟨q0, q1, q2, q3, q4⟩ := HFIN.out.cells5
    refine bodyPost_ret (v := .agg #[.int .i64 5, .int .i64 0, .string ⟨#[]⟩, .slice none 0 0, .slice none 0 0]) (by simp [results, Try.results27, go_sem, q0, q1, q2, q3, q4]) rfl ?_
    have hrf : RSt WF rb s k9 d 3 := (HOT.out rb (by omega)).trans R9.out
    exact RVal.no E1.out ⟨_, _, _, _, _, _, _, _, _, rfl⟩ ⟨k9, hk9, hrf, HGR.out⟩
  | some p =>
    obtain ⟨b, r⟩ := p
    rw [hq] at HT hv
    have HC := Lib.hid (show Calls Try.prog 48 #[.pointer (some ⟨rb, 0, none⟩)] _ (fun e w' => e = .returned (.string ⟨b.toArray⟩) ∧ RTo rb s d r _ w') from HT)
    have E1 : Hid (V = .ok (.mk 5 0 ⟨b.toArray⟩ [] [], r)) := hv
    have HSB := Lib.hid (HSZ2.out b r hq)
    clear HT hv hq HSZ2
    go_wp2_with fail
    refine HC.out.mono ?_; rintro e w9 ⟨rfl, k9, hk9, hd9, h9, g9⟩
    have D9 := Lib.hid hd9
    have R9 := Lib.hid h9
    have Y9 := Lib.hid (Y4.out.grown g9 (by intro e; injection e with e; omega))
    have G9 := Lib.hid (G4.out.trans g9)
    clear h9 g9
    clear c0 c1 c2 c3 f9 hd9
    obtain ⟨z0, z1, z2, z3, z4⟩ := Y9.out.cells5
    have f0 := Y9.out.frozen 0
    have f1 := Y9.out.frozen 1
    have f2 := Y9.out.frozen 2
    have f3 := Y9.out.frozen 3
    have f4 := Y9.out.frozen 4
    obtain ⟨hfin, hgr, hsz, hot⟩ := laid5 Y9.out G9.out (Nat.le_refl _) (.int .i64 5) (.int .i64 0) (.string ⟨b.toArray⟩) (.slice none 0 0) (.slice none 0 0)
    have HFIN := Lib.hid hfin; have HGR := Lib.hid hgr; have HSZ := Lib.hid hsz; have HOT := Lib.hid hot
    clear hfin hgr hsz hot
    go_wp2_with fail
    clear f0 f1 f2 f3 f4 z0 z1 z2 z3 z4
    generalize (((((w9.setCell ⟨w.heap.size, 0, none⟩ (.int .i64 5)).setCell ⟨w.heap.size, 1, none⟩ (.int .i64 0)).setCell ⟨w.heap.size, 2, none⟩ (.string ⟨b.toArray⟩)).setCell ⟨w.heap.size, 3, none⟩ (.slice none 0 0)).setCell ⟨w.heap.size, 4, none⟩ (.slice none 0 0)) = WF at *
    obtain ⟨q0, q1, q2, q3, q4⟩ := HFIN.out.cells5
    refine bodyPost_ret (v := .agg #[.int .i64 5, .int .i64 0, .string ⟨b.toArray⟩, .slice none 0 0, .slice none 0 0]) (by simp [results, Try.results27, go_sem, q0, q1, q2, q3, q4]) rfl ?_
    have hrf : RSt WF rb s k9 d 0 := (HOT.out rb (by omega)).trans R9.out
    exact RVal.yes E1.out ⟨_, _, _, _, _, _, _, _, _, rfl, nd_plain 5 0 _ (by unfold I64; omega) (by unfold I64; omega) (Nat.le_trans (show (⟨b.toArray⟩ : ByteArray).size ≤ 4000000 from HSB.out) (by decide))⟩ ⟨k9, hk9, D9.out, hrf, HGR.out⟩
end Go.Proofs.Ytnhoecmcbikcnaa
/-! The reference's reader: a value. -/
namespace Go.Proofs.Ytnhoecmcbikcnaa
open Go.RowKit Go.PlainAid
set_option linter.unusedVariables false
set_option linter.unusedSimpArgs false
set_option maxRecDepth 100000 in
set_option maxHeartbeats 8000000 in
theorem rvalue_c91 (rb : Nat) (s : ByteArray) (k d : Nat) (w : World) (h : RSt w rb s k d 0) (hk : k ≤ s.size) (hs : s.size ≤ 1000000) (hcase : (blanksL (s.toList.drop k)).head? = some 91)
    (HL : Hid (∀ obj k' w', k < k' → k' ≤ s.size → RSt w' rb s k' d 0 → LCall rb s d obj k' w')) : VCall rb s d k w := by
  have hrb := h.lt
  have hb := get_bt s
  unfold VCall
  obtain ⟨V, hV⟩ : ∃ V, V = valL d (blanksL (s.toList.drop k)) := ⟨_, rfl⟩
  rw [← hV]
  have HV := Lib.hid hV
  have R0 : Hid (RSt (w.alloc (.cells #[.int .i64 0, .int .i64 0, .string ⟨#[]⟩, .slice none 0 0, .slice none 0 0] 27)) rb s k d 0) := h.alloc _
  have Y0 : Hid (Blk (w.alloc (.cells #[.int .i64 0, .int .i64 0, .string ⟨#[]⟩, .slice none 0 0, .slice none 0 0] 27)) w.heap.size 27 #[.int .i64 0, .int .i64 0, .string ⟨#[]⟩, .slice none 0 0, .slice none 0 0]) := Blk.new w _ _
  have G0 : Hid (w.grownBy (w.alloc (.cells #[.int .i64 0, .int .i64 0, .string ⟨#[]⟩, .slice none 0 0, .slice none 0 0] 27)) (some rb)) := World.grownBy_alloc w _ _
  clear h hV
  go_enter Try.func27, Try.ntmps27
  go_wp2_with fail
  refine (rblanks_any rb s k d 0 _ R0.out hk hs).mono ?_; rintro e w1 ⟨rfl, k1, hk1, hd1, h1, g1⟩
  have hkk := blanks_at hd1 hk1 hk
  rw [← hd1] at HV hcase
  have R1 := Lib.hid h1
  have Y1 := Lib.hid (Y0.out.grown g1 (by intro e; injection e with e; omega))
  have G1 := Lib.hid (G0.out.trans g1)
  obtain ⟨c0, c1, c2, c3⟩ := h1.cells4
  have HBD := Lib.hid hd1
  clear h1 g1 hd1 R0 Y0 G0
  have R2 : Hid (∀ n, RSt (w1.drewN n) rb s k1 d 0) := fun n => R1.out
  have Y2 : Hid (∀ n, Blk (w1.drewN n) w.heap.size 27 #[.int .i64 0, .int .i64 0, .string ⟨#[]⟩, .slice none 0 0, .slice none 0 0]) := fun n => Y1.out
  have G2 : Hid (∀ n, w.grownBy (w1.drewN n) (some rb)) := fun n => grown_drewN G1.out _
  have i0 : (0 : Int) ≤ (k1 : Int) := by omega
  obtain ⟨hlt, q91⟩ := head_at.1 hcase
  replace q91 : bt s k1 = 91 := q91
  clear hcase
  have i1 : (k1 : Int) < (s.size : Int) := by omega
  have i2 : decide ((s.size : Int) ≤ (k1 : Int)) = false := decide_eq_false (by omega)
  obtain ⟨u, hu, hd⟩ := drop_cons s k1 hlt
  have HU := Lib.hid hu
  have HD := Lib.hid hd
  have hk11 : k1 + 1 ≤ s.size := by omega
  have HT1 : Hid ((s.toList.drop k1).tail = s.toList.drop (k1 + 1)) := tail_at
  clear hd hu
  have f8 := R1.out.frozen 1
  go_wp2_with fail
  go_quiet (fail)
  generalize nq = n1 at *
  go_wp2_with fail
  go_quiet (fail)
  go_wp2_with fail
  have R3 := Lib.hid (R2.out (n1 + nq))
  have Y3 := Lib.hid (Y2.out (n1 + nq))
  have G3 := Lib.hid (G2.out (n1 + nq))
  clear c0 c1 c2 c3 f8 R2 Y2 G2 R1 Y1 G1 i1 i2
  generalize w1.drewN (n1 + nq) = w3 at *
  obtain ⟨c0, c1, c2, c3⟩ := R3.out.cells4
  have f9 := R3.out.frozen 1
  have hw3 : w.heap.size < w3.heap.size := Y3.out.lt
  have R4 : Hid (RSt (w3.setCell ⟨rb, 1, none⟩ (.int .i64 ((k1 : Int) + 1))) rb s (k1 + 1) d 0) := by
    have := R3.out.set_ 1 (.int .i64 ((k1 + 1 : Nat) : Int))
    exact this
  have Y4 : Hid (Blk (w3.setCell ⟨rb, 1, none⟩ (.int .i64 ((k1 : Int) + 1))) w.heap.size 27 #[.int .i64 0, .int .i64 0, .string ⟨#[]⟩, .slice none 0 0, .slice none 0 0]) := Y3.out.far (by simp; omega) _
  have G4 : Hid (w.grownBy (w3.setCell ⟨rb, 1, none⟩ (.int .i64 ((k1 : Int) + 1))) (some rb)) := grown_set G3.out 1 _
  have hv := HV.out.trans (valL_l d (head_at.2 ⟨hlt, q91⟩))
  rw [HT1.out] at hv
  have HC0 := HL.out false (k1 + 1) _ (by omega) hk11 R4.out
  unfold LCall at HC0
  rw [if_neg (by simp)] at HC0
  clear HL HV
  cases hq : listA d (s.toList.drop (k1 + 1)) with
  | error ce =>
    rw [hq] at HC0 hv
    have HC := Lib.hid (show Calls Try.prog 49 #[.pointer (some ⟨rb, 0, none⟩), .bool false] _ (fun e w' => RAny e ∧ RBad rb s d ce _ w') from HC0)
    have E1 := Lib.hid hv
    clear HC0 hv hq
    go_wp2_with fail
    refine HC.out.mono ?_; rintro e w9 ⟨⟨c0', c1', c2', c3', c4', c5', c6', c7', c8', rfl⟩, k9, hk9, h9, g9⟩
    have R9 := Lib.hid h9
    have Y9 := Lib.hid (Y4.out.grown g9 (by intro e; injection e with e; omega))
    have G9 := Lib.hid (G4.out.trans g9)
    clear h9 g9
    clear c0 c1 c2 c3 f9
    obtain ⟨z0, z1, z2, z3, z4⟩ := Y9.out.cells5
    have f0 := Y9.out.frozen 0
    have f1 := Y9.out.frozen 1
    have f2 := Y9.out.frozen 2
    have f3 := Y9.out.frozen 3
    have f4 := Y9.out.frozen 4
    obtain ⟨hfin, hgr, hsz, hot⟩ := laid5 Y9.out G9.out (Nat.le_refl _) (.int .i64 c0') (.int .i64 c1') (.string c2') (.slice c3' c4' c5') (.slice c6' c7' c8')
    have HFIN := Lib.hid hfin; have HGR := Lib.hid hgr; have HSZ := Lib.hid hsz; have HOT := Lib.hid hot
    clear hfin hgr hsz hot
    go_wp2_with fail
    clear f0 f1 f2 f3 f4 z0 z1 z2 z3 z4
    generalize (((((w9.setCell ⟨w.heap.size, 0, none⟩ (.int .i64 c0')).setCell ⟨w.heap.size, 1, none⟩ (.int .i64 c1')).setCell ⟨w.heap.size, 2, none⟩ (.string c2')).setCell ⟨w.heap.size, 3, none⟩ (.slice c3' c4' c5')).setCell ⟨w.heap.size, 4, none⟩ (.slice c6' c7' c8')) = WF at *
    obtain ⟨q0, q1, q2, q3, q4⟩ := HFIN.out.cells5
    refine bodyPost_ret (v := .agg #[.int .i64 c0', .int .i64 c1', .string c2', .slice c3' c4' c5', .slice c6' c7' c8']) (by simp [results, Try.results27, go_sem, q0, q1, q2, q3, q4]) rfl ?_
    have hrf : RSt WF rb s k9 d ce := (HOT.out rb (by omega)).trans R9.out
    exact RVal.no E1.out ⟨_, _, _, _, _, _, _, _, _, rfl⟩ ⟨k9, hk9, hrf, HGR.out⟩
  | ok p =>
    obtain ⟨n, l⟩ := p
    rw [hq] at HC0 hv
    have HC := Lib.hid (show Calls Try.prog 49 #[.pointer (some ⟨rb, 0, none⟩), .bool false] _ (fun e w' => RNode n (w3.setCell ⟨rb, 1, none⟩ (.int .i64 ((k1 : Int) + 1))) w' e ∧ RTo rb s d l _ w') from HC0)
    have E1 := Lib.hid hv
    clear HC0 hv hq
    go_wp2_with fail
    refine HC.out.mono ?_; rintro e w9 ⟨⟨c0', c1', c2', c3', c4', c5', c6', c7', c8', rfl, hn9⟩, k9, hk9, hd9, h9, g9⟩
    have D9 := Lib.hid hd9
    have N9 : Hid (NdIn w9 (fun b => w3.heap.size ≤ b ∧ b < w9.heap.size) n [.int .i64 c0', .int .i64 c1', .string c2', .slice c3' c4' c5', .slice c6' c7' c8']) := NdIn.keep (fun _ _ => rfl) (fun b hb => ⟨by have := hb.1; simp at this; omega, hb.2⟩) _ _ hn9
    have R9 := Lib.hid h9
    have Y9 := Lib.hid (Y4.out.grown g9 (by intro e; injection e with e; omega))
    have G9 := Lib.hid (G4.out.trans g9)
    clear h9 g9
    clear c0 c1 c2 c3 f9 hd9 hn9
    obtain ⟨z0, z1, z2, z3, z4⟩ := Y9.out.cells5
    have f0 := Y9.out.frozen 0
    have f1 := Y9.out.frozen 1
    have f2 := Y9.out.frozen 2
    have f3 := Y9.out.frozen 3
    have f4 := Y9.out.frozen 4
    obtain ⟨hfin, hgr, hsz, hot⟩ := laid5 Y9.out G9.out (Nat.le_refl _) (.int .i64 c0') (.int .i64 c1') (.string c2') (.slice c3' c4' c5') (.slice c6' c7' c8')
    have HFIN := Lib.hid hfin; have HGR := Lib.hid hgr; have HSZ := Lib.hid hsz; have HOT := Lib.hid hot
    clear hfin hgr hsz hot
    go_wp2_with fail
    clear f0 f1 f2 f3 f4 z0 z1 z2 z3 z4
    generalize (((((w9.setCell ⟨w.heap.size, 0, none⟩ (.int .i64 c0')).setCell ⟨w.heap.size, 1, none⟩ (.int .i64 c1')).setCell ⟨w.heap.size, 2, none⟩ (.string c2')).setCell ⟨w.heap.size, 3, none⟩ (.slice c3' c4' c5')).setCell ⟨w.heap.size, 4, none⟩ (.slice c6' c7' c8')) = WF at *
    obtain ⟨q0, q1, q2, q3, q4⟩ := HFIN.out.cells5
    refine bodyPost_ret (v := .agg #[.int .i64 c0', .int .i64 c1', .string c2', .slice c3' c4' c5', .slice c6' c7' c8']) (by simp [results, Try.results27, go_sem, q0, q1, q2, q3, q4]) rfl ?_
    have hrf : RSt WF rb s k9 d 0 := (HOT.out rb (by omega)).trans R9.out
    exact RVal.yes E1.out ⟨_, _, _, _, _, _, _, _, _, rfl, NdIn.keep (fun p hp => World.cell?_of_block (HOT.out p.block (by have := hp.1; omega))) (fun b hb => ⟨by have := hb.1; omega, by rw [HSZ.out]; exact hb.2⟩) _ _ N9.out⟩ ⟨k9, hk9, D9.out, hrf, HGR.out⟩
set_option maxRecDepth 100000 in
set_option maxHeartbeats 8000000 in
theorem rvalue_c123 (rb : Nat) (s : ByteArray) (k d : Nat) (w : World) (h : RSt w rb s k d 0) (hk : k ≤ s.size) (hs : s.size ≤ 1000000) (hcase : (blanksL (s.toList.drop k)).head? = some 123)
    (HL : Hid (∀ obj k' w', k < k' → k' ≤ s.size → RSt w' rb s k' d 0 → LCall rb s d obj k' w')) : VCall rb s d k w := by
  have hrb := h.lt
  have hb := get_bt s
  unfold VCall
  obtain ⟨V, hV⟩ : ∃ V, V = valL d (blanksL (s.toList.drop k)) := ⟨_, rfl⟩
  rw [← hV]
  have HV := Lib.hid hV
  have R0 : Hid (RSt (w.alloc (.cells #[.int .i64 0, .int .i64 0, .string ⟨#[]⟩, .slice none 0 0, .slice none 0 0] 27)) rb s k d 0) := h.alloc _
  have Y0 : Hid (Blk (w.alloc (.cells #[.int .i64 0, .int .i64 0, .string ⟨#[]⟩, .slice none 0 0, .slice none 0 0] 27)) w.heap.size 27 #[.int .i64 0, .int .i64 0, .string ⟨#[]⟩, .slice none 0 0, .slice none 0 0]) := Blk.new w _ _
  have G0 : Hid (w.grownBy (w.alloc (.cells #[.int .i64 0, .int .i64 0, .string ⟨#[]⟩, .slice none 0 0, .slice none 0 0] 27)) (some rb)) := World.grownBy_alloc w _ _
  clear h hV
  go_enter Try.func27, Try.ntmps27
  go_wp2_with fail
  refine (rblanks_any rb s k d 0 _ R0.out hk hs).mono ?_; rintro e w1 ⟨rfl, k1, hk1, hd1, h1, g1⟩
  have hkk := blanks_at hd1 hk1 hk
  rw [← hd1] at HV hcase
  have R1 := Lib.hid h1
  have Y1 := Lib.hid (Y0.out.grown g1 (by intro e; injection e with e; omega))
  have G1 := Lib.hid (G0.out.trans g1)
  obtain ⟨c0, c1, c2, c3⟩ := h1.cells4
  have HBD := Lib.hid hd1
  clear h1 g1 hd1 R0 Y0 G0
  have R2 : Hid (∀ n, RSt (w1.drewN n) rb s k1 d 0) := fun n => R1.out
  have Y2 : Hid (∀ n, Blk (w1.drewN n) w.heap.size 27 #[.int .i64 0, .int .i64 0, .string ⟨#[]⟩, .slice none 0 0, .slice none 0 0]) := fun n => Y1.out
  have G2 : Hid (∀ n, w.grownBy (w1.drewN n) (some rb)) := fun n => grown_drewN G1.out _
  have i0 : (0 : Int) ≤ (k1 : Int) := by omega
  obtain ⟨hlt, q123⟩ := head_at.1 hcase
  replace q123 : bt s k1 = 123 := q123
  clear hcase
  have i1 : (k1 : Int) < (s.size : Int) := by omega
  have i2 : decide ((s.size : Int) ≤ (k1 : Int)) = false := decide_eq_false (by omega)
  obtain ⟨u, hu, hd⟩ := drop_cons s k1 hlt
  have HU := Lib.hid hu
  have HD := Lib.hid hd
  have hk11 : k1 + 1 ≤ s.size := by omega
  have HT1 : Hid ((s.toList.drop k1).tail = s.toList.drop (k1 + 1)) := tail_at
  clear hd hu
  have f8 := R1.out.frozen 1
  go_wp2_with fail
  go_quiet (fail)
  generalize nq = n1 at *
  go_wp2_with fail
  go_quiet (fail)
  go_wp2_with fail
  have R3 := Lib.hid (R2.out (n1 + nq))
  have Y3 := Lib.hid (Y2.out (n1 + nq))
  have G3 := Lib.hid (G2.out (n1 + nq))
  clear c0 c1 c2 c3 f8 R2 Y2 G2 R1 Y1 G1 i1 i2
  generalize w1.drewN (n1 + nq) = w3 at *
  obtain ⟨c0, c1, c2, c3⟩ := R3.out.cells4
  have f9 := R3.out.frozen 1
  have hw3 : w.heap.size < w3.heap.size := Y3.out.lt
  have R4 : Hid (RSt (w3.setCell ⟨rb, 1, none⟩ (.int .i64 ((k1 : Int) + 1))) rb s (k1 + 1) d 0) := by
    have := R3.out.set_ 1 (.int .i64 ((k1 + 1 : Nat) : Int))
    exact this
  have Y4 : Hid (Blk (w3.setCell ⟨rb, 1, none⟩ (.int .i64 ((k1 : Int) + 1))) w.heap.size 27 #[.int .i64 0, .int .i64 0, .string ⟨#[]⟩, .slice none 0 0, .slice none 0 0]) := Y3.out.far (by simp; omega) _
  have G4 : Hid (w.grownBy (w3.setCell ⟨rb, 1, none⟩ (.int .i64 ((k1 : Int) + 1))) (some rb)) := grown_set G3.out 1 _
  have hv := HV.out.trans (valL_o d (head_at.2 ⟨hlt, q123⟩))
  rw [HT1.out] at hv
  have HC0 := HL.out true (k1 + 1) _ (by omega) hk11 R4.out
  unfold LCall at HC0
  rw [if_pos (by simp)] at HC0
  clear HL HV
  cases hq : listO d (s.toList.drop (k1 + 1)) with
  | error ce =>
    rw [hq] at HC0 hv
    have HC := Lib.hid (show Calls Try.prog 49 #[.pointer (some ⟨rb, 0, none⟩), .bool true] _ (fun e w' => RAny e ∧ RBad rb s d ce _ w') from HC0)
    have E1 := Lib.hid hv
    clear HC0 hv hq
    go_wp2_with fail
    refine HC.out.mono ?_; rintro e w9 ⟨⟨c0', c1', c2', c3', c4', c5', c6', c7', c8', rfl⟩, k9, hk9, h9, g9⟩
    have R9 := Lib.hid h9
    have Y9 := Lib.hid (Y4.out.grown g9 (by intro e; injection e with e; omega))
    have G9 := Lib.hid (G4.out.trans g9)
    clear h9 g9
    clear c0 c1 c2 c3 f9
    obtain ⟨z0, z1, z2, z3, z4⟩ := Y9.out.cells5
    have f0 := Y9.out.frozen 0
    have f1 := Y9.out.frozen 1
    have f2 := Y9.out.frozen 2
    have f3 := Y9.out.frozen 3
    have f4 := Y9.out.frozen 4
    obtain ⟨hfin, hgr, hsz, hot⟩ := laid5 Y9.out G9.out (Nat.le_refl _) (.int .i64 c0') (.int .i64 c1') (.string c2') (.slice c3' c4' c5') (.slice c6' c7' c8')
    have HFIN := Lib.hid hfin; have HGR := Lib.hid hgr; have HSZ := Lib.hid hsz; have HOT := Lib.hid hot
    clear hfin hgr hsz hot
    go_wp2_with fail
    clear f0 f1 f2 f3 f4 z0 z1 z2 z3 z4
    generalize (((((w9.setCell ⟨w.heap.size, 0, none⟩ (.int .i64 c0')).setCell ⟨w.heap.size, 1, none⟩ (.int .i64 c1')).setCell ⟨w.heap.size, 2, none⟩ (.string c2')).setCell ⟨w.heap.size, 3, none⟩ (.slice c3' c4' c5')).setCell ⟨w.heap.size, 4, none⟩ (.slice c6' c7' c8')) = WF at *
    obtain ⟨q0, q1, q2, q3, q4⟩ := HFIN.out.cells5
    refine bodyPost_ret (v := .agg #[.int .i64 c0', .int .i64 c1', .string c2', .slice c3' c4' c5', .slice c6' c7' c8']) (by simp [results, Try.results27, go_sem, q0, q1, q2, q3, q4]) rfl ?_
    have hrf : RSt WF rb s k9 d ce := (HOT.out rb (by omega)).trans R9.out
    exact RVal.no E1.out ⟨_, _, _, _, _, _, _, _, _, rfl⟩ ⟨k9, hk9, hrf, HGR.out⟩
  | ok p =>
    obtain ⟨n, l⟩ := p
    rw [hq] at HC0 hv
    have HC := Lib.hid (show Calls Try.prog 49 #[.pointer (some ⟨rb, 0, none⟩), .bool true] _ (fun e w' => RNode n (w3.setCell ⟨rb, 1, none⟩ (.int .i64 ((k1 : Int) + 1))) w' e ∧ RTo rb s d l _ w') from HC0)
    have E1 := Lib.hid hv
    clear HC0 hv hq
    go_wp2_with fail
    refine HC.out.mono ?_; rintro e w9 ⟨⟨c0', c1', c2', c3', c4', c5', c6', c7', c8', rfl, hn9⟩, k9, hk9, hd9, h9, g9⟩
    have D9 := Lib.hid hd9
    have N9 : Hid (NdIn w9 (fun b => w3.heap.size ≤ b ∧ b < w9.heap.size) n [.int .i64 c0', .int .i64 c1', .string c2', .slice c3' c4' c5', .slice c6' c7' c8']) := NdIn.keep (fun _ _ => rfl) (fun b hb => ⟨by have := hb.1; simp at this; omega, hb.2⟩) _ _ hn9
    have R9 := Lib.hid h9
    have Y9 := Lib.hid (Y4.out.grown g9 (by intro e; injection e with e; omega))
    have G9 := Lib.hid (G4.out.trans g9)
    clear h9 g9
    clear c0 c1 c2 c3 f9 hd9 hn9
    obtain ⟨z0, z1, z2, z3, z4⟩ := Y9.out.cells5
    have f0 := Y9.out.frozen 0
    have f1 := Y9.out.frozen 1
    have f2 := Y9.out.frozen 2
    have f3 := Y9.out.frozen 3
    have f4 := Y9.out.frozen 4
    obtain ⟨hfin, hgr, hsz, hot⟩ := laid5 Y9.out G9.out (Nat.le_refl _) (.int .i64 c0') (.int .i64 c1') (.string c2') (.slice c3' c4' c5') (.slice c6' c7' c8')
    have HFIN := Lib.hid hfin; have HGR := Lib.hid hgr; have HSZ := Lib.hid hsz; have HOT := Lib.hid hot
    clear hfin hgr hsz hot
    go_wp2_with fail
    clear f0 f1 f2 f3 f4 z0 z1 z2 z3 z4
    generalize (((((w9.setCell ⟨w.heap.size, 0, none⟩ (.int .i64 c0')).setCell ⟨w.heap.size, 1, none⟩ (.int .i64 c1')).setCell ⟨w.heap.size, 2, none⟩ (.string c2')).setCell ⟨w.heap.size, 3, none⟩ (.slice c3' c4' c5')).setCell ⟨w.heap.size, 4, none⟩ (.slice c6' c7' c8')) = WF at *
    obtain ⟨q0, q1, q2, q3, q4⟩ := HFIN.out.cells5
    refine bodyPost_ret (v := .agg #[.int .i64 c0', .int .i64 c1', .string c2', .slice c3' c4' c5', .slice c6' c7' c8']) (by simp [results, Try.results27, go_sem, q0, q1, q2, q3, q4]) rfl ?_
    have hrf : RSt WF rb s k9 d 0 := (HOT.out rb (by omega)).trans R9.out
    exact RVal.yes E1.out ⟨_, _, _, _, _, _, _, _, _, rfl, NdIn.keep (fun p hp => World.cell?_of_block (HOT.out p.block (by have := hp.1; omega))) (fun b hb => ⟨by have := hb.1; omega, by rw [HSZ.out]; exact hb.2⟩) _ _ N9.out⟩ ⟨k9, hk9, D9.out, hrf, HGR.out⟩
end Go.Proofs.Ytnhoecmcbikcnaa
/-! The reference's reader: a value. -/
namespace Go.Proofs.Ytnhoecmcbikcnaa
open Go.RowKit Go.PlainAid
set_option linter.unusedVariables false
set_option linter.unusedSimpArgs false
set_option maxRecDepth 100000 in
set_option maxHeartbeats 2000000 in
theorem rvalue_other (rb : Nat) (s : ByteArray) (k d : Nat) (w : World) (h : RSt w rb s k d 0) (hk : k ≤ s.size) (hs : s.size ≤ 1000000) (hcase : ∃ c : UInt8, (blanksL (s.toList.drop k)).head? = some c ∧ c ≠ 110 ∧ c ≠ 102 ∧ c ≠ 116 ∧ c ≠ 34 ∧ c ≠ 91 ∧ c ≠ 123)
    (HL : Hid (∀ obj k' w', k < k' → k' ≤ s.size → RSt w' rb s k' d 0 → LCall rb s d obj k' w')) : VCall rb s d k w := by
  have hrb := h.lt
  have hb := get_bt s
  unfold VCall
  obtain ⟨V, hV⟩ : ∃ V, V = valL d (blanksL (s.toList.drop k)) := ⟨_, rfl⟩
  rw [← hV]
  have HV := Lib.hid hV
  have R0 : Hid (RSt (w.alloc (.cells #[.int .i64 0, .int .i64 0, .string ⟨#[]⟩, .slice none 0 0, .slice none 0 0] 27)) rb s k d 0) := h.alloc _
  have Y0 : Hid (Blk (w.alloc (.cells #[.int .i64 0, .int .i64 0, .string ⟨#[]⟩, .slice none 0 0, .slice none 0 0] 27)) w.heap.size 27 #[.int .i64 0, .int .i64 0, .string ⟨#[]⟩, .slice none 0 0, .slice none 0 0]) := Blk.new w _ _
  have G0 : Hid (w.grownBy (w.alloc (.cells #[.int .i64 0, .int .i64 0, .string ⟨#[]⟩, .slice none 0 0, .slice none 0 0] 27)) (some rb)) := World.grownBy_alloc w _ _
  clear h hV
  go_enter Try.func27, Try.ntmps27
  go_wp2_with fail
  refine (rblanks_any rb s k d 0 _ R0.out hk hs).mono ?_; rintro e w1 ⟨rfl, k1, hk1, hd1, h1, g1⟩
  have hkk := blanks_at hd1 hk1 hk
  rw [← hd1] at HV hcase
  have R1 := Lib.hid h1
  have Y1 := Lib.hid (Y0.out.grown g1 (by intro e; injection e with e; omega))
  have G1 := Lib.hid (G0.out.trans g1)
  obtain ⟨c0, c1, c2, c3⟩ := h1.cells4
  have HBD := Lib.hid hd1
  clear h1 g1 hd1 R0 Y0 G0
  have R2 : Hid (∀ n, RSt (w1.drewN n) rb s k1 d 0) := fun n => R1.out
  have Y2 : Hid (∀ n, Blk (w1.drewN n) w.heap.size 27 #[.int .i64 0, .int .i64 0, .string ⟨#[]⟩, .slice none 0 0, .slice none 0 0]) := fun n => Y1.out
  have G2 : Hid (∀ n, w.grownBy (w1.drewN n) (some rb)) := fun n => grown_drewN G1.out _
  have i0 : (0 : Int) ≤ (k1 : Int) := by omega
  obtain ⟨cc, hcc, e1, e2, e3, e4, e5, e6⟩ := hcase
  obtain ⟨hlt, qc⟩ := head_at.1 hcc
  have hne : ∀ x : UInt8, cc ≠ x → (bt s k1 == (x.toNat : Int)) = false := fun x h => by rw [beq_eq_false_iff_ne, qc]; exact fun e => h (UInt8.toNat_inj.1 (by omega))
  have n110 : (bt s k1 == 110) = false := hne 110 e1
  have n102 : (bt s k1 == 102) = false := hne 102 e2
  have n116 : (bt s k1 == 116) = false := hne 116 e3
  have n34 : (bt s k1 == 34) = false := hne 34 e4
  have n91 : (bt s k1 == 91) = false := hne 91 e5
  have n123 : (bt s k1 == 123) = false := hne 123 e6
  have HVM := Lib.hid (valL_m d hcc e1 e2 e3 e4 e5 e6)
  clear hcc e1 e2 e3 e4 e5 e6 hne qc
  have i1 : (k1 : Int) < (s.size : Int) := by omega
  have i2 : decide ((s.size : Int) ≤ (k1 : Int)) = false := decide_eq_false (by omega)
  obtain ⟨u, hu, hd⟩ := drop_cons s k1 hlt
  have HU := Lib.hid hu
  have HD := Lib.hid hd
  have hk11 : k1 + 1 ≤ s.size := by omega
  have HT1 : Hid ((s.toList.drop k1).tail = s.toList.drop (k1 + 1)) := tail_at
  clear hd hu
  go_wp2_with fail
  go_quiet (fail)
  generalize nq = n1 at *
  go_wp2_with fail
  go_quiet (fail)
  go_wp2_with fail
  have R3 := Lib.hid (R2.out (n1 + nq))
  have Y3 := Lib.hid (Y2.out (n1 + nq))
  have G3 := Lib.hid (G2.out (n1 + nq))
  clear c0 c1 c2 c3 R2 Y2 G2 R1 Y1 G1 i1 i2
  generalize w1.drewN (n1 + nq) = w3 at *
  obtain ⟨c0, c1, c2, c3⟩ := R3.out.cells4
  have f9 := R3.out.frozen 1
  have hw3 : w.heap.size < w3.heap.size := Y3.out.lt
  have R4 : Hid (RSt (w3.setCell ⟨rb, 1, none⟩ (.int .i64 ((k1 : Int) + 1))) rb s (k1 + 1) d 0) := by
    have := R3.out.set_ 1 (.int .i64 ((k1 + 1 : Nat) : Int))
    exact this
  have Y4 : Hid (Blk (w3.setCell ⟨rb, 1, none⟩ (.int .i64 ((k1 : Int) + 1))) w.heap.size 27 #[.int .i64 0, .int .i64 0, .string ⟨#[]⟩, .slice none 0 0, .slice none 0 0]) := Y3.out.far (by simp; omega) _
  have G4 : Hid (w.grownBy (w3.setCell ⟨rb, 1, none⟩ (.int .i64 ((k1 : Int) + 1))) (some rb)) := grown_set G3.out 1 _
  have hv := HV.out.trans HVM.out
  have HN := rnumber_any rb s k1 d w3 R3.out hk1 hs
  clear HL R4 Y4 G4 HV HVM
  cases hq : numL (s.toList.drop k1) with
  | none =>
    rw [hq] at HN hv
    have HC := Lib.hid (show Calls Try.prog 50 #[.pointer (some ⟨rb, 0, none⟩)] w3 (fun e w' => RAny e ∧ RBad rb s d 3 w3 w') from HN)
    have E1 : Hid (V = .error 3) := hv
    clear HN hv hq
    go_wp2_with fail
    refine HC.out.mono ?_; rintro e w9 ⟨⟨c0', c1', c2', c3', c4', c5', c6', c7', c8', rfl⟩, k9, hk9, h9, g9⟩
    have R9 := Lib.hid h9
    have Y9 := Lib.hid (Y3.out.grown g9 (by intro e; injection e with e; omega))
    have G9 := Lib.hid (G3.out.trans g9)
    clear h9 g9
    clear c0 c1 c2 c3 f9
    obtain ⟨z0, z1, z2, z3, z4⟩ := Y9.out.cells5
    have f0 := Y9.out.frozen 0
    have f1 := Y9.out.frozen 1
    have f2 := Y9.out.frozen 2
    have f3 := Y9.out.frozen 3
    have f4 := Y9.out.frozen 4
    obtain ⟨hfin, hgr, hsz, hot⟩ := laid5 Y9.out G9.out (Nat.le_refl _) (.int .i64 c0') (.int .i64 c1') (.string c2') (.slice c3' c4' c5') (.slice c6' c7' c8')
    have HFIN := Lib.hid hfin; have HGR := Lib.hid hgr; have HSZ := Lib.hid hsz; have HOT := Lib.hid hot
    clear hfin hgr hsz hot
    go_wp2_with fail
    clear f0 f1 f2 f3 f4 z0 z1 z2 z3 z4
    generalize (((((w9.setCell ⟨w.heap.size, 0, none⟩ (.int .i64 c0')).setCell ⟨w.heap.size, 1, none⟩ (.int .i64 c1')).setCell ⟨w.heap.size, 2, none⟩ (.string c2')).setCell ⟨w.heap.size, 3, none⟩ (.slice c3' c4' c5')).setCell ⟨w.heap.size, 4, none⟩ (.slice c6' c7' c8')) = WF at *
    obtain ⟨q0, q1, q2, q3, q4⟩ := HFIN.out.cells5
    refine bodyPost_ret (v := .agg #[.int .i64 c0', .int .i64 c1', .string c2', .slice c3' c4' c5', .slice c6' c7' c8']) (by simp [results, Try.results27, go_sem, q0, q1, q2, q3, q4]) rfl ?_
    have hrf : RSt WF rb s k9 d 3 := (HOT.out rb (by omega)).trans R9.out
    exact RVal.no E1.out ⟨_, _, _, _, _, _, _, _, _, rfl⟩ ⟨k9, hk9, hrf, HGR.out⟩
  | some p =>
    obtain ⟨n, l⟩ := p
    rw [hq] at HN hv
    have HC := Lib.hid (show Calls Try.prog 50 #[.pointer (some ⟨rb, 0, none⟩)] w3 (fun e w' => e = .returned (.agg #[.int .i64 4, .int .i64 n, .string ⟨#[]⟩, .slice none 0 0, .slice none 0 0]) ∧ RTo rb s d l w3 w') from HN)
    have E1 : Hid (V = .ok (.mk 4 n ⟨#[]⟩ [] [], l)) := hv
    have hnI : Hid (I64 n) := by
      have h1 := numL_ok hq
      show I64 n
      unfold I64; omega
    clear HN hv hq
    go_wp2_with fail
    refine HC.out.mono ?_; rintro e w9 ⟨rfl, k9, hk9, hd9, h9, g9⟩
    have D9 := Lib.hid hd9
    have R9 := Lib.hid h9
    have Y9 := Lib.hid (Y3.out.grown g9 (by intro e; injection e with e; omega))
    have G9 := Lib.hid (G3.out.trans g9)
    clear h9 g9
    clear c0 c1 c2 c3 f9 hd9
    obtain ⟨z0, z1, z2, z3, z4⟩ := Y9.out.cells5
    have f0 := Y9.out.frozen 0
    have f1 := Y9.out.frozen 1
    have f2 := Y9.out.frozen 2
    have f3 := Y9.out.frozen 3
    have f4 := Y9.out.frozen 4
    obtain ⟨hfin, hgr, hsz, hot⟩ := laid5 Y9.out G9.out (Nat.le_refl _) (.int .i64 4) (.int .i64 n) (.string ⟨#[]⟩) (.slice none 0 0) (.slice none 0 0)
    have HFIN := Lib.hid hfin; have HGR := Lib.hid hgr; have HSZ := Lib.hid hsz; have HOT := Lib.hid hot
    clear hfin hgr hsz hot
    go_wp2_with fail
    clear f0 f1 f2 f3 f4 z0 z1 z2 z3 z4
    generalize (((((w9.setCell ⟨w.heap.size, 0, none⟩ (.int .i64 4)).setCell ⟨w.heap.size, 1, none⟩ (.int .i64 n)).setCell ⟨w.heap.size, 2, none⟩ (.string ⟨#[]⟩)).setCell ⟨w.heap.size, 3, none⟩ (.slice none 0 0)).setCell ⟨w.heap.size, 4, none⟩ (.slice none 0 0)) = WF at *
    obtain ⟨q0, q1, q2, q3, q4⟩ := HFIN.out.cells5
    refine bodyPost_ret (v := .agg #[.int .i64 4, .int .i64 n, .string ⟨#[]⟩, .slice none 0 0, .slice none 0 0]) (by simp [results, Try.results27, go_sem, q0, q1, q2, q3, q4]) rfl ?_
    have hrf : RSt WF rb s k9 d 0 := (HOT.out rb (by omega)).trans R9.out
    exact RVal.yes E1.out ⟨_, _, _, _, _, _, _, _, _, rfl, nd_plain 4 n ⟨#[]⟩ (by unfold I64; omega) hnI.out (by decide)⟩ ⟨k9, hk9, D9.out, hrf, HGR.out⟩
end Go.Proofs.Ytnhoecmcbikcnaa
/-! The reference's reader: a value, whole. -/
namespace Go.Proofs.Ytnhoecmcbikcnaa
open Go.RowKit Go.PlainAid
set_option linter.unusedVariables false
set_option linter.unusedSimpArgs false
theorem rvalue_any (rb : Nat) (s : ByteArray) (k d : Nat) (w : World) (h : RSt w rb s k d 0) (hk : k ≤ s.size) (hs : s.size ≤ 1000000)
    (HL : Hid (∀ obj k' w', k < k' → k' ≤ s.size → RSt w' rb s k' d 0 → LCall rb s d obj k' w')) : VCall rb s d k w := by
  cases hh : (blanksL (s.toList.drop k)).head? with
  | none => exact rvalue_none rb s k d w h hk hs (List.head?_eq_none_iff.1 hh) HL
  | some c =>
    by_cases e1 : c = 110
    · subst e1; exact rvalue_c110 rb s k d w h hk hs hh HL
    by_cases e2 : c = 102
    · subst e2; exact rvalue_c102 rb s k d w h hk hs hh HL
    by_cases e3 : c = 116
    · subst e3; exact rvalue_c116 rb s k d w h hk hs hh HL
    by_cases e4 : c = 34
    · subst e4; exact rvalue_c34 rb s k d w h hk hs hh HL
    by_cases e5 : c = 91
    · subst e5; exact rvalue_c91 rb s k d w h hk hs hh HL
    by_cases e6 : c = 123
    · subst e6; exact rvalue_c123 rb s k d w h hk hs hh HL
    exact rvalue_other rb s k d w h hk hs ⟨c, hh, e1, e2, e3, e4, e5, e6⟩ HL
theorem rvalue_all (rb : Nat) (s : ByteArray) (hs : s.size ≤ 1000000) : ∀ (m k d : Nat) (w : World), s.size - k < m → k ≤ s.size → RSt w rb s k d 0 → VCall rb s d k w := by
  intro m
  induction m with
  | zero => intro k d w hm; omega
  | succ m ih =>
    intro k d w hm hk h
    refine rvalue_any rb s k d w h hk hs (fun obj k' w' h1 h2 h3 => ?_)
    unfold LCall
    cases obj with
    | true => rw [if_pos rfl]; exact rlistO_any rb s k' d w' h3 h2 hs (fun hd k2 w2 h4 h5 h6 => ih k2 (d + 1) w2 (by omega) h5 h6)
    | false => rw [if_neg (by simp)]; exact rlistA_any rb s k' d w' h3 h2 hs (fun hd k2 w2 h4 h5 h6 => ih k2 (d + 1) w2 (by omega) h5 h6)
end Go.Proofs.Ytnhoecmcbikcnaa
