/- Texts of one seat, one behind the other: Rp2a, Rp2b, Rp2c, Rp2d, Jman0, Pj1, Pj2, Pj3, Pj4, Jval3. No condition. -/
import Derived.Test.YtnhoecmcbikcnaaQ3
import Derived.Deep.RegionLaw
import Derived.Deep.RegionHeld3
/-! The reference's reader: whole numbers (a). -/
namespace Go.Proofs.Ytnhoecmcbikcnaa
open Go.RowKit Go.PlainAid
set_option linter.unusedVariables false
set_option linter.unusedSimpArgs false
set_option maxRecDepth 100000 in
set_option maxHeartbeats 4000000 in
theorem rnumber_a (rb : Nat) (s : ByteArray) (k1 d : Nat) (w : World) (hrb : rb < w.heap.size) (hk1 : k1 ≤ s.size) (hs : s.size ≤ 1000000) (HC : Hid (((s.toList.drop k1).takeWhile digB).length ≤ 1))
    (HM : Hid (Calls Try.prog 59 #[.pointer (some ⟨rb, 0, none⟩), .int .u8 45] (w.alloc (.cells #[.int .i64 0, .int .i64 0, .string ⟨#[]⟩, .slice none 0 0, .slice none 0 0] 27)) fun e w' => e = .returned (.bool true) ∧ RSt w' rb s k1 d 0 ∧ (w.alloc (.cells #[.int .i64 0, .int .i64 0, .string ⟨#[]⟩, .slice none 0 0, .slice none 0 0] 27)).grownBy w' (some rb))) :
    Calls Try.prog 50 #[.pointer (some ⟨rb, 0, none⟩)] w (RNum rb s d (numTail true (s.toList.drop k1)) w) := by
  obtain ⟨V, hV⟩ : ∃ V, V = numTail true (s.toList.drop k1) := ⟨_, rfl⟩
  rw [← hV]
  have HV : Hid (V = numTail true (s.toList.drop k1)) := hV
  have hb := get_bt s
  clear hV
  have HA : Hid (w.grownBy (w.alloc (.cells #[.int .i64 0, .int .i64 0, .string ⟨#[]⟩, .slice none 0 0, .slice none 0 0] 27)) (some rb)) := World.grownBy_alloc w _ _
  have HY : Hid (Blk (w.alloc (.cells #[.int .i64 0, .int .i64 0, .string ⟨#[]⟩, .slice none 0 0, .slice none 0 0] 27)) w.heap.size 27 #[.int .i64 0, .int .i64 0, .string ⟨#[]⟩, .slice none 0 0, .slice none 0 0]) := Blk.new w _ _
  have HNE : Hid (some w.heap.size ≠ some rb) := by intro e; injection e with e; omega
  go_enter Try.func50, Try.ntmps50
  go_wp2_with fail
  refine HM.out.mono ?_; rintro e w1 ⟨rfl, h1, g1⟩
  have H1 := Lib.hid h1
  have G1 := Lib.hid (HA.out.trans g1)
  have Y1 := Lib.hid (HY.out.grown g1 HNE.out)
  obtain ⟨c0, c1, c2, c3⟩ := h1.cells4
  clear h1 g1 HM HA HY
  have HI0 : Hid (s.toList.drop k1 = [] ++ s.toList.drop k1) := rfl
  have HN0 : Hid (NInv [] 0) := NInv.nil
  go_wp2_with fail
  go_loopg [5] (s.size - k1) (fun g t5 wr => ∃ (j : Nat) (ds : List UInt8) (N : Int), j ≤ s.size ∧ s.size - j ≤ g ∧ k1 + ds.length = j ∧ t5 = .int .i64 N ∧ Hid (s.toList.drop k1 = ds ++ s.toList.drop j) ∧ Hid (NInv ds N) ∧ Hid (RSt wr rb s j d 0) ∧ Hid (w.grownBy wr (some rb)) ∧ Hid (Blk wr w.heap.size 27 #[.int .i64 0, .int .i64 0, .string ⟨#[]⟩, .slice none 0 0, .slice none 0 0]))
  case atStart => exact ⟨k1, [], 0, hk1, Nat.le_refl _, rfl, rfl, HI0, HN0, H1, G1, Y1⟩
  case round =>
    clear HI0 HN0 H1 G1 Y1 c0 c1 c2 c3
    obtain ⟨j, ds, N, hj, hg, hjk, rfl, hl, hp, h0, hw, hy⟩ := hrel
    obtain ⟨wo, rfl⟩ : ∃ wo : World, wo = wr := ⟨_, rfl⟩
    obtain ⟨b, hb1⟩ : ∃ b, b = digH (s.toList.drop j) := ⟨_, rfl⟩
    have HBD := Lib.hid hb1
    clear hb1
    go_upto_region 4 with fail
    go_cut [46] (fun t46 wx => t46 = .bool b ∧ Hid (RSt wx rb s j d 0) ∧ Hid (w.grownBy wx (some rb)) ∧ Hid (Blk wx w.heap.size 27 #[.int .i64 0, .int .i64 0, .string ⟨#[]⟩, .slice none 0 0, .slice none 0 0]))
    case first =>
      obtain ⟨c0, c1, c2, c3⟩ := h0.out.cells4
      have i0 : (0 : Int) ≤ (j : Int) := by omega
      by_cases hlt : j < s.size
      · have i1 : (j : Int) < (s.size : Int) := by omega
        have hdg := HBD.out
        rw [digH_at hlt] at hdg
        by_cases q1 : 48 ≤ bt s j
        · have e1 : decide (48 ≤ bt s j) = true := decide_eq_true q1
          by_cases q2 : bt s j ≤ 57
          · have e2 : decide (bt s j ≤ 57) = true := decide_eq_true q2
            have E : Hid (b = true) := by show _ = _; rw [hdg]; exact decide_eq_true ⟨q1, q2⟩
            clear hdg q1 q2
            go_quiet (fail)
            go_wp2_with fail
            go_meet
            exact ⟨by rw [E.out], h0.out, grown_drewN hw.out _, hy.out⟩
          · have e2 : decide (bt s j ≤ 57) = false := decide_eq_false q2
            have E : Hid (b = false) := by show _ = _; rw [hdg]; exact decide_eq_false (fun h => q2 h.2)
            clear hdg q1 q2
            go_quiet (fail)
            go_wp2_with fail
            go_meet
            exact ⟨by rw [E.out], h0.out, grown_drewN hw.out _, hy.out⟩
        · have e1 : decide (48 ≤ bt s j) = false := decide_eq_false q1
          have E : Hid (b = false) := by show _ = _; rw [hdg]; exact decide_eq_false (fun h => q1 h.1)
          clear hdg q1
          go_quiet (fail)
          go_wp2_with fail
          go_meet
          exact ⟨by rw [E.out], h0.out, grown_drewN hw.out _, hy.out⟩
      · have i1 : ¬ (j : Int) < (s.size : Int) := by omega
        have E : Hid (b = false) := by show _ = _; rw [HBD.out, drop_end s j (by omega)]; rfl
        go_quiet (fail)
        go_wp2_with fail
        go_meet
        exact ⟨by rw [E.out], h0.out, grown_drewN hw.out _, hy.out⟩
    case rest =>
      clear h0 hw hy
      obtain ⟨rfl, h0, hw, hy⟩ := hcut
      obtain ⟨c0, c1, c2, c3⟩ := h0.out.cells4
      have f1 := h0.out.frozen 1
      cases b with
      | true =>
        obtain ⟨u, t, hcu, hdu⟩ := digH_cons HBD.out.symm
        have hlt : j < s.size := by
          rcases Nat.lt_or_ge j s.size with h | h
          · exact h
          · rw [drop_end s j h] at hcu; cases hcu
        obtain ⟨u', hu, hdr⟩ := drop_cons s j hlt
        have hcu2 := hdr.symm.trans hcu
        injection hcu2 with e1 e2
        subst e1; subst e2
        have bd := digB_bd hdu
        have HL2 : Hid (s.toList.drop k1 = (ds ++ [u']) ++ s.toList.drop (j + 1)) := ds_step hl.out hdr
        have i0 : (0 : Int) ≤ (j : Int) := by omega
        have i1 : (j : Int) < (s.size : Int) := by omega
        have hj1 : j + 1 ≤ s.size := by omega
        have hgg : s.size - (j + 1) ≤ gk - 1 := by omega
        have hg1 : 0 < gk := by omega
        have HJK : Hid (k1 + (ds ++ [u']).length = j + 1) := by show _ = _; rw [List.length_append]; simp; omega
        by_cases hN : N ≤ 9007199254740991
        · have HP2 := Lib.hid (hp.out.step hdu hN)
          obtain ⟨M, hM⟩ : ∃ M, M = 10 * N + (bt s j - 48) := ⟨_, rfl⟩
          have HM2 : Hid (NInv (ds ++ [u']) M) := by rw [hM, hu]; exact HP2.out
          have hN0 := hp.out.2.2.2.1
          have dN : decide (N ≤ 9007199254740991) = true := decide_eq_true hN
          have x1 : IntKind.i64.wrap (10 * N) = 10 * N := IntWalk.i64_in _ (by omega)
          have x2 : IntKind.u8.wrap (bt s j - 48) = bt s j - 48 := wraps_u8 _ (by omega) (by omega)
          have x3 : IntKind.i64.wrap (bt s j - 48) = bt s j - 48 := IntWalk.i64_in _ (by omega)
          have x4 : IntKind.i64.wrap (10 * N + (bt s j - 48)) = M := by rw [← hM]; exact IntWalk.i64_in _ (by omega)
          clear hu hdr hcu hdu bd hN0 hN hM hjk hp hl hg HP2
          go_wp2_with fail
          go_quiet (fail)
          go_wp2_with fail
          go_roundg (gk - 1)
          case measure => omega
          case rel => exact ⟨j + 1, ds ++ [u'], M, hj1, hgg, HJK.out, rfl, HL2, HM2, (by have := (h0.out).set_ 1 (.int .i64 ((j + 1 : Nat) : Int)); exact this), grown_set (by first | exact grown_drewN hw.out _ | exact hw.out) 1 _, hy.out.far (fun e => HNE.out (by rw [e])) _⟩
        · have HM2 := Lib.hid (hp.out.big hdu hN)
          have dN : decide (N ≤ 9007199254740991) = false := decide_eq_false hN
          clear hu hdr hcu hdu bd hN hjk hp hl hg
          go_wp2_with fail
          go_roundg (gk - 1)
          case measure => omega
          case rel => exact ⟨j + 1, ds ++ [u'], N, hj1, hgg, HJK.out, rfl, HL2, HM2, (by have := (h0.out).set_ 1 (.int .i64 ((j + 1 : Nat) : Int)); exact this), grown_set hw.out 1 _, hy.out.far (fun e => HNE.out (by rw [e])) _⟩
      | false =>
        have hend := numTail_val true hp.out.1 HBD.out.symm
        rw [← hl.out, ← HV.out] at hend
        have HEND := Lib.hid hend
        obtain ⟨n, hn⟩ : ∃ n, n = ds.length := ⟨_, rfl⟩
        have HNL := Lib.hid hn
        have HNC : n ≤ 1 := by have h1 := HC.out; rw [hl.out, takeW_app hp.out.1, (takeW_none HBD.out.symm).1, List.append_nil, ← hn] at h1; exact h1
        clear HC
        have hjk2 : (j : Int) - (k1 : Int) = (n : Int) := by omega
        have hn5 : n ≤ 1000000 := by omega
        have HHD : Hid (ds ≠ [] → (ds.head? = some 48 ↔ bt s k1 = 48)) := by
          intro hne
          cases ds with
          | nil => exact absurd rfl hne
          | cons a ds =>
            have h1 : s.toList[k1]? = some a := by
              have := congrArg List.head? hl.out
              simpa [List.head?_drop] using this
            have h2 := bt_eq s k1 a h1
            show some a = some 48 ↔ _
            rw [h2]
            constructor
            · intro e; injection e with e; rw [e]; rfl
            · intro e; congr 1; exact UInt8.toNat_inj.1 (by have e3 : ((48 : UInt8).toNat) = 48 := rfl; omega)
        have HNV : Hid (valD 0 ds = N ∨ 9007199254740991 < N) := by
          rcases (by omega : N ≤ 9007199254740991 ∨ 9007199254740991 < N) with h | h
          · exact .inl (hp.out.2.1 h).symm
          · exact .inr h
        have HNB : Hid (9007199254740991 < N → 9007199254740991 < valD 0 ds) := hp.out.2.2.1
        have HN0 : Hid (0 ≤ N ∧ N ≤ 90071992547409919) := hp.out.2.2.2
        have k0 : (0 : Int) ≤ (k1 : Int) := by omega
        have i0 : (0 : Int) ≤ (j : Int) := by omega
        have HK1J : Hid (k1 < s.size ∨ n = 0) := by show _ ∨ _; omega
        have HJ := Lib.hid hj
        clear hend hn hjk hp hl hg hk1
        go_upto_region 9 with fail
        go_cut [149] (fun t wx => t = .bool V.isNone ∧ Hid (RSt wx rb s j d 0) ∧ Hid (w.grownBy wx (some rb)) ∧ Hid (Blk wx w.heap.size 27 #[.int .i64 0, .int .i64 0, .string ⟨#[]⟩, .slice none 0 0, .slice none 0 0]))
        case first =>
          dsimp only [List.append]
          refine wp_region_quiet_lit (by kernel_rfl) (by kernel_rfl) ?_
          by_cases hn0 : n = 0
          · have e0 : ((n : Int) == 0) = true := by rw [beq_iff_eq]; omega
            have E : Hid (V.isNone = true) := by show _ = _; rw [HEND.out, if_pos (.inl (List.eq_nil_of_length_eq_zero (by rw [← HNL.out]; exact hn0)))]; rfl
            clear hn0 HNC HEND HNV HNB HHD
            repeat (go_big_quiet_step (fail))
            refine wpQuiet_nil ?_
            intro _ hw9
            obtain ⟨nq, hw8⟩ := hw9
            subst hw8
            go_wp2_with fail
            go_meet
            exact ⟨by rw [E.out], h0.out, grown_drewN hw.out _, hy.out⟩
          have e0 : ((n : Int) == 0) = false := by rw [beq_eq_false_iff_ne]; omega
          have hne : ds ≠ [] := fun e => hn0 (by rw [HNL.out, e]; rfl)
          have kl : (k1 : Int) < (s.size : Int) := by rcases HK1J.out with h | h; omega; exact absurd h hn0
          have e1 : decide (1 < (n : Int)) = false := decide_eq_false (by omega)
          by_cases hbig : 9007199254740991 < N
          · have e3 : decide (9007199254740991 < N) = true := decide_eq_true hbig
            have E : Hid (V.isNone = true) := by show _ = _; rw [HEND.out, if_pos (.inr (.inr (.inl (HNB.out hbig))))]; rfl
            clear hne hn0 HNC hbig HEND HNV HNB HHD
            repeat (go_big_quiet_step (fail))
            refine wpQuiet_nil ?_
            intro _ hw9
            obtain ⟨nq, hw8⟩ := hw9
            subst hw8
            go_wp2_with fail
            go_meet
            exact ⟨by rw [E.out], h0.out, grown_drewN hw.out _, hy.out⟩
          have e3 : decide (9007199254740991 < N) = false := decide_eq_false hbig
          have hval : valD 0 ds = N := by rcases HNV.out with h | h; exact h; exact absurd h hbig
          have hC : ¬ 9007199254740991 < valD 0 ds := by rw [hval]; exact hbig
          clear hbig
          by_cases hz : N = 0
          · have e4 : (N == 0) = true := by rw [beq_iff_eq]; exact hz
            have E : Hid (V.isNone = true) := by show _ = _; rw [HEND.out, if_pos (.inr (.inr (.inr (.inl ⟨rfl, by rw [hval]; exact hz⟩))))]; rfl
            clear hne hn0 HNC hz hval hC HEND HNV HNB HHD
            repeat (go_big_quiet_step (fail))
            refine wpQuiet_nil ?_
            intro _ hw9
            obtain ⟨nq, hw8⟩ := hw9
            subst hw8
            go_wp2_with fail
            go_meet
            exact ⟨by rw [E.out], h0.out, grown_drewN hw.out _, hy.out⟩
          have e4 : (N == 0) = false := by rw [beq_eq_false_iff_ne]; exact hz
          by_cases hlt : j < s.size
          · have i1 : (j : Int) < (s.size : Int) := by omega
            by_cases q46 : bt s j = 46
            · have b46 : (bt s j == 46) = true := by rw [beq_iff_eq]; exact q46
              have E : Hid (V.isNone = true) := by show _ = _; rw [HEND.out, if_pos (.inr (.inr (.inr (.inr (by rw [pointB_at hlt]; exact decide_eq_true (by omega))))))]; rfl
              clear hne hn0 HNC hz hval hC hlt q46 HEND HNV HNB HHD
              repeat (go_big_quiet_step (fail))
              refine wpQuiet_nil ?_
              intro _ hw9
              obtain ⟨nq, hw8⟩ := hw9
              subst hw8
              go_wp2_with fail
              go_meet
              exact ⟨by rw [E.out], h0.out, grown_drewN hw.out _, hy.out⟩
            have b46 : (bt s j == 46) = false := by rw [beq_eq_false_iff_ne]; exact q46
            by_cases q101 : bt s j = 101
            · have b101 : (bt s j == 101) = true := by rw [beq_iff_eq]; exact q101
              have E : Hid (V.isNone = true) := by show _ = _; rw [HEND.out, if_pos (.inr (.inr (.inr (.inr (by rw [pointB_at hlt]; exact decide_eq_true (by omega))))))]; rfl
              clear hne hn0 HNC hz hval hC hlt q46 q101 HEND HNV HNB HHD
              repeat (go_big_quiet_step (fail))
              refine wpQuiet_nil ?_
              intro _ hw9
              obtain ⟨nq, hw8⟩ := hw9
              subst hw8
              go_wp2_with fail
              go_meet
              exact ⟨by rw [E.out], h0.out, grown_drewN hw.out _, hy.out⟩
            have b101 : (bt s j == 101) = false := by rw [beq_eq_false_iff_ne]; exact q101
            by_cases q69 : bt s j = 69
            · have b69 : (bt s j == 69) = true := by rw [beq_iff_eq]; exact q69
              have E : Hid (V.isNone = true) := by show _ = _; rw [HEND.out, if_pos (.inr (.inr (.inr (.inr (by rw [pointB_at hlt]; exact decide_eq_true (by omega))))))]; rfl
              clear hne hn0 HNC hz hval hC hlt q46 q101 q69 HEND HNV HNB HHD
              repeat (go_big_quiet_step (fail))
              refine wpQuiet_nil ?_
              intro _ hw9
              obtain ⟨nq, hw8⟩ := hw9
              subst hw8
              go_wp2_with fail
              go_meet
              exact ⟨by rw [E.out], h0.out, grown_drewN hw.out _, hy.out⟩
            have b69 : (bt s j == 69) = false := by rw [beq_eq_false_iff_ne]; exact q69
            have E : Hid (V.isNone = false) := by show _ = _; rw [HEND.out, if_neg (fun h => by rcases h with h | h | h | h | h; exact hne h; exact (fun h => by have := h.1; rw [← HNL.out] at this; exact absurd HNC (by omega)) h; exact hC h; exact (fun h => hz (by rw [← hval]; exact h.2)) h; rw [pointB_at hlt, decide_eq_true_eq] at h; omega)]; rfl
            clear hne hn0 HNC hz hval hC hlt q46 q101 q69 HEND HNV HNB HHD
            repeat (go_big_quiet_step (fail))
            refine wpQuiet_nil ?_
            intro _ hw9
            obtain ⟨nq, hw8⟩ := hw9
            subst hw8
            go_wp2_with fail
            go_meet
            exact ⟨by rw [E.out], h0.out, grown_drewN hw.out _, hy.out⟩
          · have i1 : ¬ (j : Int) < (s.size : Int) := by omega
            have E : Hid (V.isNone = false) := by show _ = _; rw [HEND.out, if_neg (fun h => by rcases h with h | h | h | h | h; exact hne h; exact (fun h => by have := h.1; rw [← HNL.out] at this; exact absurd HNC (by omega)) h; exact hC h; exact (fun h => hz (by rw [← hval]; exact h.2)) h; rw [drop_end s j (by omega)] at h; cases h)]; rfl
            clear hne hn0 HNC hz hval hC hlt HEND HNV HNB HHD
            repeat (go_big_quiet_step (fail))
            refine wpQuiet_nil ?_
            intro _ hw9
            obtain ⟨nq, hw8⟩ := hw9
            subst hw8
            go_wp2_with fail
            go_meet
            exact ⟨by rw [E.out], h0.out, grown_drewN hw.out _, hy.out⟩
        case rest =>
          clear h0 hw hy c0 c1 c2 c3 f1 HNC
          obtain ⟨rfl, h0, hw, hy⟩ := hcut
          obtain ⟨x, hx⟩ : ∃ x, x = IntKind.i64.wrap (-N) := ⟨_, rfl⟩
          have hx2 : x = -N := by rw [hx]; have := HN0.out; exact IntWalk.i64_in _ (by omega)
          have HX := Lib.hid hx2
          have hwx : IntKind.i64.wrap (-N) = -N := by rw [← hx]; exact hx2
          have HVN : Hid (V.isNone = true → V = none) := fun h => by cases hv : V with | none => rfl | some p => rw [hv] at h; cases h
          have HVS : Hid (V.isNone = false → V = some (if true = true then -N else N, s.toList.drop j)) := fun h => by
            have h1 := HEND.out
            split at h1
            · rw [h1] at h; cases h
            · rename_i hc
              have : valD 0 ds = N := by rcases HNV.out with h | h; exact h; exact absurd (HNB.out h) (fun hh => hc (.inr (.inr (.inl hh))))
              rw [h1, this]
          clear hx hx2 HEND HNV HNB HHD
          generalize V.isNone = vb at *
          cases vb with
          | true =>
            have E := Lib.hid (HVN.out rfl)
            clear HVN HVS
            go_wp2_with fail
            refine (rfail_0 rb s j d 3 _ h0.out).mono ?_; rintro e w9 ⟨rfl, h9, g9⟩
            have HSF := Lib.hid h9
            have HWF := Lib.hid (hw.out.trans g9)
            have HYF := Lib.hid (hy.out.grown g9 HNE.out)
            obtain ⟨wf, rfl⟩ : ∃ wf : World, wf = w9 := ⟨_, rfl⟩
            clear h9 g9 h0 hw hy
            obtain ⟨z0, z1, z2, z3, z4⟩ := HYF.out.cells5
            have f0 := HYF.out.frozen 0
            have f1 := HYF.out.frozen 1
            have f2 := HYF.out.frozen 2
            have f3 := HYF.out.frozen 3
            have f4 := HYF.out.frozen 4
            obtain ⟨hfin, hgr, hsz, hot⟩ := laid5 HYF.out HWF.out (Nat.le_refl _) (.int .i64 4) (.int .i64 (-N)) (.string ⟨#[]⟩) (.slice none 0 0) (.slice none 0 0)
            have HFIN := Lib.hid hfin
            have HGR := Lib.hid hgr
            have HOT := Lib.hid hot
            clear hfin hgr hsz hot
            go_wp2_with fail
            clear f0 f1 f2 f3 f4 z0 z1 z2 z3 z4
            generalize (((((wf.setCell ⟨w.heap.size, 0, none⟩ (.int .i64 4)).setCell ⟨w.heap.size, 1, none⟩ (.int .i64 (-N))).setCell ⟨w.heap.size, 2, none⟩ (.string ⟨#[]⟩)).setCell ⟨w.heap.size, 3, none⟩ (.slice none 0 0)).setCell ⟨w.heap.size, 4, none⟩ (.slice none 0 0)) = WF at *
            obtain ⟨q0, q1, q2, q3, q4⟩ := HFIN.out.cells5
            refine bodyPost_ret (v := .agg #[.int .i64 4, .int .i64 (-N), .string ⟨#[]⟩, .slice none 0 0, .slice none 0 0]) (by simp [results, Try.results50, go_sem, q0, q1, q2, q3, q4]) rfl ?_
            exact RNum.no E.out ⟨⟨_, _, _, _, _, _, _, _, _, rfl⟩, j, HJ.out, (HOT.out rb (by omega)).trans HSF.out, HGR.out⟩
          | false =>
            have HSF := h0
            have HWF := hw
            have HYF := hy
            obtain ⟨wf, rfl⟩ : ∃ wf : World, wf = wc := ⟨_, rfl⟩
            clear h0 hw hy
            have E : Hid (V = some (-N, s.toList.drop j)) := HVS.out rfl
            clear HVN HVS
            obtain ⟨z0, z1, z2, z3, z4⟩ := HYF.out.cells5
            have f0 := HYF.out.frozen 0
            have f1 := HYF.out.frozen 1
            have f2 := HYF.out.frozen 2
            have f3 := HYF.out.frozen 3
            have f4 := HYF.out.frozen 4
            obtain ⟨hfin, hgr, hsz, hot⟩ := laid5 HYF.out HWF.out (Nat.le_refl _) (.int .i64 4) (.int .i64 (-N)) (.string ⟨#[]⟩) (.slice none 0 0) (.slice none 0 0)
            have HFIN := Lib.hid hfin
            have HGR := Lib.hid hgr
            have HOT := Lib.hid hot
            clear hfin hgr hsz hot
            go_wp2_with fail
            clear f0 f1 f2 f3 f4 z0 z1 z2 z3 z4
            generalize (((((wf.setCell ⟨w.heap.size, 0, none⟩ (.int .i64 4)).setCell ⟨w.heap.size, 1, none⟩ (.int .i64 (-N))).setCell ⟨w.heap.size, 2, none⟩ (.string ⟨#[]⟩)).setCell ⟨w.heap.size, 3, none⟩ (.slice none 0 0)).setCell ⟨w.heap.size, 4, none⟩ (.slice none 0 0)) = WF at *
            obtain ⟨q0, q1, q2, q3, q4⟩ := HFIN.out.cells5
            refine bodyPost_ret (v := .agg #[.int .i64 4, .int .i64 (-N), .string ⟨#[]⟩, .slice none 0 0, .slice none 0 0]) (by simp [results, Try.results50, go_sem, q0, q1, q2, q3, q4]) rfl ?_
            exact RNum.yes E.out ⟨rfl, j, HJ.out, rfl, (HOT.out rb (by omega)).trans HSF.out, HGR.out⟩
end Go.Proofs.Ytnhoecmcbikcnaa
/-! The reference's reader: whole numbers (b). -/
namespace Go.Proofs.Ytnhoecmcbikcnaa
open Go.RowKit Go.PlainAid
set_option linter.unusedVariables false
set_option linter.unusedSimpArgs false
set_option maxRecDepth 100000 in
set_option maxHeartbeats 4000000 in
theorem rnumber_b (rb : Nat) (s : ByteArray) (k1 d : Nat) (w : World) (hrb : rb < w.heap.size) (hk1 : k1 ≤ s.size) (hs : s.size ≤ 1000000) (HC : Hid (1 < ((s.toList.drop k1).takeWhile digB).length))
    (HM : Hid (Calls Try.prog 59 #[.pointer (some ⟨rb, 0, none⟩), .int .u8 45] (w.alloc (.cells #[.int .i64 0, .int .i64 0, .string ⟨#[]⟩, .slice none 0 0, .slice none 0 0] 27)) fun e w' => e = .returned (.bool true) ∧ RSt w' rb s k1 d 0 ∧ (w.alloc (.cells #[.int .i64 0, .int .i64 0, .string ⟨#[]⟩, .slice none 0 0, .slice none 0 0] 27)).grownBy w' (some rb))) :
    Calls Try.prog 50 #[.pointer (some ⟨rb, 0, none⟩)] w (RNum rb s d (numTail true (s.toList.drop k1)) w) := by
  obtain ⟨V, hV⟩ : ∃ V, V = numTail true (s.toList.drop k1) := ⟨_, rfl⟩
  rw [← hV]
  have HV : Hid (V = numTail true (s.toList.drop k1)) := hV
  have hb := get_bt s
  clear hV
  have HA : Hid (w.grownBy (w.alloc (.cells #[.int .i64 0, .int .i64 0, .string ⟨#[]⟩, .slice none 0 0, .slice none 0 0] 27)) (some rb)) := World.grownBy_alloc w _ _
  have HY : Hid (Blk (w.alloc (.cells #[.int .i64 0, .int .i64 0, .string ⟨#[]⟩, .slice none 0 0, .slice none 0 0] 27)) w.heap.size 27 #[.int .i64 0, .int .i64 0, .string ⟨#[]⟩, .slice none 0 0, .slice none 0 0]) := Blk.new w _ _
  have HNE : Hid (some w.heap.size ≠ some rb) := by intro e; injection e with e; omega
  go_enter Try.func50, Try.ntmps50
  go_wp2_with fail
  refine HM.out.mono ?_; rintro e w1 ⟨rfl, h1, g1⟩
  have H1 := Lib.hid h1
  have G1 := Lib.hid (HA.out.trans g1)
  have Y1 := Lib.hid (HY.out.grown g1 HNE.out)
  obtain ⟨c0, c1, c2, c3⟩ := h1.cells4
  clear h1 g1 HM HA HY
  have HI0 : Hid (s.toList.drop k1 = [] ++ s.toList.drop k1) := rfl
  have HN0 : Hid (NInv [] 0) := NInv.nil
  go_wp2_with fail
  go_loopg [5] (s.size - k1) (fun g t5 wr => ∃ (j : Nat) (ds : List UInt8) (N : Int), j ≤ s.size ∧ s.size - j ≤ g ∧ k1 + ds.length = j ∧ t5 = .int .i64 N ∧ Hid (s.toList.drop k1 = ds ++ s.toList.drop j) ∧ Hid (NInv ds N) ∧ Hid (RSt wr rb s j d 0) ∧ Hid (w.grownBy wr (some rb)) ∧ Hid (Blk wr w.heap.size 27 #[.int .i64 0, .int .i64 0, .string ⟨#[]⟩, .slice none 0 0, .slice none 0 0]))
  case atStart => exact ⟨k1, [], 0, hk1, Nat.le_refl _, rfl, rfl, HI0, HN0, H1, G1, Y1⟩
  case round =>
    clear HI0 HN0 H1 G1 Y1 c0 c1 c2 c3
    obtain ⟨j, ds, N, hj, hg, hjk, rfl, hl, hp, h0, hw, hy⟩ := hrel
    obtain ⟨wo, rfl⟩ : ∃ wo : World, wo = wr := ⟨_, rfl⟩
    obtain ⟨b, hb1⟩ : ∃ b, b = digH (s.toList.drop j) := ⟨_, rfl⟩
    have HBD := Lib.hid hb1
    clear hb1
    go_upto_region 4 with fail
    go_cut [46] (fun t46 wx => t46 = .bool b ∧ Hid (RSt wx rb s j d 0) ∧ Hid (w.grownBy wx (some rb)) ∧ Hid (Blk wx w.heap.size 27 #[.int .i64 0, .int .i64 0, .string ⟨#[]⟩, .slice none 0 0, .slice none 0 0]))
    case first =>
      obtain ⟨c0, c1, c2, c3⟩ := h0.out.cells4
      have i0 : (0 : Int) ≤ (j : Int) := by omega
      by_cases hlt : j < s.size
      · have i1 : (j : Int) < (s.size : Int) := by omega
        have hdg := HBD.out
        rw [digH_at hlt] at hdg
        by_cases q1 : 48 ≤ bt s j
        · have e1 : decide (48 ≤ bt s j) = true := decide_eq_true q1
          by_cases q2 : bt s j ≤ 57
          · have e2 : decide (bt s j ≤ 57) = true := decide_eq_true q2
            have E : Hid (b = true) := by show _ = _; rw [hdg]; exact decide_eq_true ⟨q1, q2⟩
            clear hdg q1 q2
            go_quiet (fail)
            go_wp2_with fail
            go_meet
            exact ⟨by rw [E.out], h0.out, grown_drewN hw.out _, hy.out⟩
          · have e2 : decide (bt s j ≤ 57) = false := decide_eq_false q2
            have E : Hid (b = false) := by show _ = _; rw [hdg]; exact decide_eq_false (fun h => q2 h.2)
            clear hdg q1 q2
            go_quiet (fail)
            go_wp2_with fail
            go_meet
            exact ⟨by rw [E.out], h0.out, grown_drewN hw.out _, hy.out⟩
        · have e1 : decide (48 ≤ bt s j) = false := decide_eq_false q1
          have E : Hid (b = false) := by show _ = _; rw [hdg]; exact decide_eq_false (fun h => q1 h.1)
          clear hdg q1
          go_quiet (fail)
          go_wp2_with fail
          go_meet
          exact ⟨by rw [E.out], h0.out, grown_drewN hw.out _, hy.out⟩
      · have i1 : ¬ (j : Int) < (s.size : Int) := by omega
        have E : Hid (b = false) := by show _ = _; rw [HBD.out, drop_end s j (by omega)]; rfl
        go_quiet (fail)
        go_wp2_with fail
        go_meet
        exact ⟨by rw [E.out], h0.out, grown_drewN hw.out _, hy.out⟩
    case rest =>
      clear h0 hw hy
      obtain ⟨rfl, h0, hw, hy⟩ := hcut
      obtain ⟨c0, c1, c2, c3⟩ := h0.out.cells4
      have f1 := h0.out.frozen 1
      cases b with
      | true =>
        obtain ⟨u, t, hcu, hdu⟩ := digH_cons HBD.out.symm
        have hlt : j < s.size := by
          rcases Nat.lt_or_ge j s.size with h | h
          · exact h
          · rw [drop_end s j h] at hcu; cases hcu
        obtain ⟨u', hu, hdr⟩ := drop_cons s j hlt
        have hcu2 := hdr.symm.trans hcu
        injection hcu2 with e1 e2
        subst e1; subst e2
        have bd := digB_bd hdu
        have HL2 : Hid (s.toList.drop k1 = (ds ++ [u']) ++ s.toList.drop (j + 1)) := ds_step hl.out hdr
        have i0 : (0 : Int) ≤ (j : Int) := by omega
        have i1 : (j : Int) < (s.size : Int) := by omega
        have hj1 : j + 1 ≤ s.size := by omega
        have hgg : s.size - (j + 1) ≤ gk - 1 := by omega
        have hg1 : 0 < gk := by omega
        have HJK : Hid (k1 + (ds ++ [u']).length = j + 1) := by show _ = _; rw [List.length_append]; simp; omega
        by_cases hN : N ≤ 9007199254740991
        · have HP2 := Lib.hid (hp.out.step hdu hN)
          obtain ⟨M, hM⟩ : ∃ M, M = 10 * N + (bt s j - 48) := ⟨_, rfl⟩
          have HM2 : Hid (NInv (ds ++ [u']) M) := by rw [hM, hu]; exact HP2.out
          have hN0 := hp.out.2.2.2.1
          have dN : decide (N ≤ 9007199254740991) = true := decide_eq_true hN
          have x1 : IntKind.i64.wrap (10 * N) = 10 * N := IntWalk.i64_in _ (by omega)
          have x2 : IntKind.u8.wrap (bt s j - 48) = bt s j - 48 := wraps_u8 _ (by omega) (by omega)
          have x3 : IntKind.i64.wrap (bt s j - 48) = bt s j - 48 := IntWalk.i64_in _ (by omega)
          have x4 : IntKind.i64.wrap (10 * N + (bt s j - 48)) = M := by rw [← hM]; exact IntWalk.i64_in _ (by omega)
          clear hu hdr hcu hdu bd hN0 hN hM hjk hp hl hg HP2
          go_wp2_with fail
          go_quiet (fail)
          go_wp2_with fail
          go_roundg (gk - 1)
          case measure => omega
          case rel => exact ⟨j + 1, ds ++ [u'], M, hj1, hgg, HJK.out, rfl, HL2, HM2, (by have := (h0.out).set_ 1 (.int .i64 ((j + 1 : Nat) : Int)); exact this), grown_set (by first | exact grown_drewN hw.out _ | exact hw.out) 1 _, hy.out.far (fun e => HNE.out (by rw [e])) _⟩
        · have HM2 := Lib.hid (hp.out.big hdu hN)
          have dN : decide (N ≤ 9007199254740991) = false := decide_eq_false hN
          clear hu hdr hcu hdu bd hN hjk hp hl hg
          go_wp2_with fail
          go_roundg (gk - 1)
          case measure => omega
          case rel => exact ⟨j + 1, ds ++ [u'], N, hj1, hgg, HJK.out, rfl, HL2, HM2, (by have := (h0.out).set_ 1 (.int .i64 ((j + 1 : Nat) : Int)); exact this), grown_set hw.out 1 _, hy.out.far (fun e => HNE.out (by rw [e])) _⟩
      | false =>
        have hend := numTail_val true hp.out.1 HBD.out.symm
        rw [← hl.out, ← HV.out] at hend
        have HEND := Lib.hid hend
        obtain ⟨n, hn⟩ : ∃ n, n = ds.length := ⟨_, rfl⟩
        have HNL := Lib.hid hn
        have HNC : 1 < n := by have h1 := HC.out; rw [hl.out, takeW_app hp.out.1, (takeW_none HBD.out.symm).1, List.append_nil, ← hn] at h1; exact h1
        clear HC
        have hjk2 : (j : Int) - (k1 : Int) = (n : Int) := by omega
        have hn5 : n ≤ 1000000 := by omega
        have HHD : Hid (ds ≠ [] → (ds.head? = some 48 ↔ bt s k1 = 48)) := by
          intro hne
          cases ds with
          | nil => exact absurd rfl hne
          | cons a ds =>
            have h1 : s.toList[k1]? = some a := by
              have := congrArg List.head? hl.out
              simpa [List.head?_drop] using this
            have h2 := bt_eq s k1 a h1
            show some a = some 48 ↔ _
            rw [h2]
            constructor
            · intro e; injection e with e; rw [e]; rfl
            · intro e; congr 1; exact UInt8.toNat_inj.1 (by have e3 : ((48 : UInt8).toNat) = 48 := rfl; omega)
        have HNV : Hid (valD 0 ds = N ∨ 9007199254740991 < N) := by
          rcases (by omega : N ≤ 9007199254740991 ∨ 9007199254740991 < N) with h | h
          · exact .inl (hp.out.2.1 h).symm
          · exact .inr h
        have HNB : Hid (9007199254740991 < N → 9007199254740991 < valD 0 ds) := hp.out.2.2.1
        have HN0 : Hid (0 ≤ N ∧ N ≤ 90071992547409919) := hp.out.2.2.2
        have k0 : (0 : Int) ≤ (k1 : Int) := by omega
        have i0 : (0 : Int) ≤ (j : Int) := by omega
        have HK1J : Hid (k1 < s.size ∨ n = 0) := by show _ ∨ _; omega
        have HJ := Lib.hid hj
        clear hend hn hjk hp hl hg hk1
        go_upto_region 9 with fail
        go_cut [149] (fun t wx => t = .bool V.isNone ∧ Hid (RSt wx rb s j d 0) ∧ Hid (w.grownBy wx (some rb)) ∧ Hid (Blk wx w.heap.size 27 #[.int .i64 0, .int .i64 0, .string ⟨#[]⟩, .slice none 0 0, .slice none 0 0]))
        case first =>
          dsimp only [List.append]
          refine wp_region_quiet_lit (by kernel_rfl) (by kernel_rfl) ?_
          have hn0 : n ≠ 0 := by omega
          have e0 : ((n : Int) == 0) = false := by rw [beq_eq_false_iff_ne]; omega
          have hne : ds ≠ [] := fun e => hn0 (by rw [HNL.out, e]; rfl)
          have kl : (k1 : Int) < (s.size : Int) := by rcases HK1J.out with h | h; omega; exact absurd h hn0
          have e1 : decide (1 < (n : Int)) = true := decide_eq_true (by omega)
          by_cases hq48 : bt s k1 = 48
          · have e2 : (bt s k1 == 48) = true := by rw [beq_iff_eq]; exact hq48
            have E : Hid (V.isNone = true) := by show _ = _; rw [HEND.out, if_pos (.inr (.inl ⟨by rw [← HNL.out]; exact HNC, (HHD.out hne).2 hq48⟩))]; rfl
            clear hne hn0 hq48 HNC HEND HNV HNB HHD
            repeat (go_big_quiet_step (fail))
            refine wpQuiet_nil ?_
            intro _ hw9
            obtain ⟨nq, hw8⟩ := hw9
            subst hw8
            go_wp2_with fail
            go_meet
            exact ⟨by rw [E.out], h0.out, grown_drewN hw.out _, hy.out⟩
          have e2 : (bt s k1 == 48) = false := by rw [beq_eq_false_iff_ne]; exact hq48
          by_cases hbig : 9007199254740991 < N
          · have e3 : decide (9007199254740991 < N) = true := decide_eq_true hbig
            have E : Hid (V.isNone = true) := by show _ = _; rw [HEND.out, if_pos (.inr (.inr (.inl (HNB.out hbig))))]; rfl
            clear hne hn0 HNC hq48 hbig HEND HNV HNB HHD
            repeat (go_big_quiet_step (fail))
            refine wpQuiet_nil ?_
            intro _ hw9
            obtain ⟨nq, hw8⟩ := hw9
            subst hw8
            go_wp2_with fail
            go_meet
            exact ⟨by rw [E.out], h0.out, grown_drewN hw.out _, hy.out⟩
          have e3 : decide (9007199254740991 < N) = false := decide_eq_false hbig
          have hval : valD 0 ds = N := by rcases HNV.out with h | h; exact h; exact absurd h hbig
          have hC : ¬ 9007199254740991 < valD 0 ds := by rw [hval]; exact hbig
          clear hbig
          by_cases hz : N = 0
          · have e4 : (N == 0) = true := by rw [beq_iff_eq]; exact hz
            have E : Hid (V.isNone = true) := by show _ = _; rw [HEND.out, if_pos (.inr (.inr (.inr (.inl ⟨rfl, by rw [hval]; exact hz⟩))))]; rfl
            clear hne hn0 HNC hq48 hz hval hC HEND HNV HNB HHD
            repeat (go_big_quiet_step (fail))
            refine wpQuiet_nil ?_
            intro _ hw9
            obtain ⟨nq, hw8⟩ := hw9
            subst hw8
            go_wp2_with fail
            go_meet
            exact ⟨by rw [E.out], h0.out, grown_drewN hw.out _, hy.out⟩
          have e4 : (N == 0) = false := by rw [beq_eq_false_iff_ne]; exact hz
          by_cases hlt : j < s.size
          · have i1 : (j : Int) < (s.size : Int) := by omega
            by_cases q46 : bt s j = 46
            · have b46 : (bt s j == 46) = true := by rw [beq_iff_eq]; exact q46
              have E : Hid (V.isNone = true) := by show _ = _; rw [HEND.out, if_pos (.inr (.inr (.inr (.inr (by rw [pointB_at hlt]; exact decide_eq_true (by omega))))))]; rfl
              clear hne hn0 HNC hq48 hz hval hC hlt q46 HEND HNV HNB HHD
              repeat (go_big_quiet_step (fail))
              refine wpQuiet_nil ?_
              intro _ hw9
              obtain ⟨nq, hw8⟩ := hw9
              subst hw8
              go_wp2_with fail
              go_meet
              exact ⟨by rw [E.out], h0.out, grown_drewN hw.out _, hy.out⟩
            have b46 : (bt s j == 46) = false := by rw [beq_eq_false_iff_ne]; exact q46
            by_cases q101 : bt s j = 101
            · have b101 : (bt s j == 101) = true := by rw [beq_iff_eq]; exact q101
              have E : Hid (V.isNone = true) := by show _ = _; rw [HEND.out, if_pos (.inr (.inr (.inr (.inr (by rw [pointB_at hlt]; exact decide_eq_true (by omega))))))]; rfl
              clear hne hn0 HNC hq48 hz hval hC hlt q46 q101 HEND HNV HNB HHD
              repeat (go_big_quiet_step (fail))
              refine wpQuiet_nil ?_
              intro _ hw9
              obtain ⟨nq, hw8⟩ := hw9
              subst hw8
              go_wp2_with fail
              go_meet
              exact ⟨by rw [E.out], h0.out, grown_drewN hw.out _, hy.out⟩
            have b101 : (bt s j == 101) = false := by rw [beq_eq_false_iff_ne]; exact q101
            by_cases q69 : bt s j = 69
            · have b69 : (bt s j == 69) = true := by rw [beq_iff_eq]; exact q69
              have E : Hid (V.isNone = true) := by show _ = _; rw [HEND.out, if_pos (.inr (.inr (.inr (.inr (by rw [pointB_at hlt]; exact decide_eq_true (by omega))))))]; rfl
              clear hne hn0 HNC hq48 hz hval hC hlt q46 q101 q69 HEND HNV HNB HHD
              repeat (go_big_quiet_step (fail))
              refine wpQuiet_nil ?_
              intro _ hw9
              obtain ⟨nq, hw8⟩ := hw9
              subst hw8
              go_wp2_with fail
              go_meet
              exact ⟨by rw [E.out], h0.out, grown_drewN hw.out _, hy.out⟩
            have b69 : (bt s j == 69) = false := by rw [beq_eq_false_iff_ne]; exact q69
            have E : Hid (V.isNone = false) := by show _ = _; rw [HEND.out, if_neg (fun h => by rcases h with h | h | h | h | h; exact hne h; exact (fun h => hq48 ((HHD.out hne).1 h.2)) h; exact hC h; exact (fun h => hz (by rw [← hval]; exact h.2)) h; rw [pointB_at hlt, decide_eq_true_eq] at h; omega)]; rfl
            clear hne hn0 HNC hq48 hz hval hC hlt q46 q101 q69 HEND HNV HNB HHD
            repeat (go_big_quiet_step (fail))
            refine wpQuiet_nil ?_
            intro _ hw9
            obtain ⟨nq, hw8⟩ := hw9
            subst hw8
            go_wp2_with fail
            go_meet
            exact ⟨by rw [E.out], h0.out, grown_drewN hw.out _, hy.out⟩
          · have i1 : ¬ (j : Int) < (s.size : Int) := by omega
            have E : Hid (V.isNone = false) := by show _ = _; rw [HEND.out, if_neg (fun h => by rcases h with h | h | h | h | h; exact hne h; exact (fun h => hq48 ((HHD.out hne).1 h.2)) h; exact hC h; exact (fun h => hz (by rw [← hval]; exact h.2)) h; rw [drop_end s j (by omega)] at h; cases h)]; rfl
            clear hne hn0 HNC hq48 hz hval hC hlt HEND HNV HNB HHD
            repeat (go_big_quiet_step (fail))
            refine wpQuiet_nil ?_
            intro _ hw9
            obtain ⟨nq, hw8⟩ := hw9
            subst hw8
            go_wp2_with fail
            go_meet
            exact ⟨by rw [E.out], h0.out, grown_drewN hw.out _, hy.out⟩
        case rest =>
          clear h0 hw hy c0 c1 c2 c3 f1 HNC
          obtain ⟨rfl, h0, hw, hy⟩ := hcut
          obtain ⟨x, hx⟩ : ∃ x, x = IntKind.i64.wrap (-N) := ⟨_, rfl⟩
          have hx2 : x = -N := by rw [hx]; have := HN0.out; exact IntWalk.i64_in _ (by omega)
          have HX := Lib.hid hx2
          have hwx : IntKind.i64.wrap (-N) = -N := by rw [← hx]; exact hx2
          have HVN : Hid (V.isNone = true → V = none) := fun h => by cases hv : V with | none => rfl | some p => rw [hv] at h; cases h
          have HVS : Hid (V.isNone = false → V = some (if true = true then -N else N, s.toList.drop j)) := fun h => by
            have h1 := HEND.out
            split at h1
            · rw [h1] at h; cases h
            · rename_i hc
              have : valD 0 ds = N := by rcases HNV.out with h | h; exact h; exact absurd (HNB.out h) (fun hh => hc (.inr (.inr (.inl hh))))
              rw [h1, this]
          clear hx hx2 HEND HNV HNB HHD
          generalize V.isNone = vb at *
          cases vb with
          | true =>
            have E := Lib.hid (HVN.out rfl)
            clear HVN HVS
            go_wp2_with fail
            refine (rfail_0 rb s j d 3 _ h0.out).mono ?_; rintro e w9 ⟨rfl, h9, g9⟩
            have HSF := Lib.hid h9
            have HWF := Lib.hid (hw.out.trans g9)
            have HYF := Lib.hid (hy.out.grown g9 HNE.out)
            obtain ⟨wf, rfl⟩ : ∃ wf : World, wf = w9 := ⟨_, rfl⟩
            clear h9 g9 h0 hw hy
            obtain ⟨z0, z1, z2, z3, z4⟩ := HYF.out.cells5
            have f0 := HYF.out.frozen 0
            have f1 := HYF.out.frozen 1
            have f2 := HYF.out.frozen 2
            have f3 := HYF.out.frozen 3
            have f4 := HYF.out.frozen 4
            obtain ⟨hfin, hgr, hsz, hot⟩ := laid5 HYF.out HWF.out (Nat.le_refl _) (.int .i64 4) (.int .i64 (-N)) (.string ⟨#[]⟩) (.slice none 0 0) (.slice none 0 0)
            have HFIN := Lib.hid hfin
            have HGR := Lib.hid hgr
            have HOT := Lib.hid hot
            clear hfin hgr hsz hot
            go_wp2_with fail
            clear f0 f1 f2 f3 f4 z0 z1 z2 z3 z4
            generalize (((((wf.setCell ⟨w.heap.size, 0, none⟩ (.int .i64 4)).setCell ⟨w.heap.size, 1, none⟩ (.int .i64 (-N))).setCell ⟨w.heap.size, 2, none⟩ (.string ⟨#[]⟩)).setCell ⟨w.heap.size, 3, none⟩ (.slice none 0 0)).setCell ⟨w.heap.size, 4, none⟩ (.slice none 0 0)) = WF at *
            obtain ⟨q0, q1, q2, q3, q4⟩ := HFIN.out.cells5
            refine bodyPost_ret (v := .agg #[.int .i64 4, .int .i64 (-N), .string ⟨#[]⟩, .slice none 0 0, .slice none 0 0]) (by simp [results, Try.results50, go_sem, q0, q1, q2, q3, q4]) rfl ?_
            exact RNum.no E.out ⟨⟨_, _, _, _, _, _, _, _, _, rfl⟩, j, HJ.out, (HOT.out rb (by omega)).trans HSF.out, HGR.out⟩
          | false =>
            have HSF := h0
            have HWF := hw
            have HYF := hy
            obtain ⟨wf, rfl⟩ : ∃ wf : World, wf = wc := ⟨_, rfl⟩
            clear h0 hw hy
            have E : Hid (V = some (-N, s.toList.drop j)) := HVS.out rfl
            clear HVN HVS
            obtain ⟨z0, z1, z2, z3, z4⟩ := HYF.out.cells5
            have f0 := HYF.out.frozen 0
            have f1 := HYF.out.frozen 1
            have f2 := HYF.out.frozen 2
            have f3 := HYF.out.frozen 3
            have f4 := HYF.out.frozen 4
            obtain ⟨hfin, hgr, hsz, hot⟩ := laid5 HYF.out HWF.out (Nat.le_refl _) (.int .i64 4) (.int .i64 (-N)) (.string ⟨#[]⟩) (.slice none 0 0) (.slice none 0 0)
            have HFIN := Lib.hid hfin
            have HGR := Lib.hid hgr
            have HOT := Lib.hid hot
            clear hfin hgr hsz hot
            go_wp2_with fail
            clear f0 f1 f2 f3 f4 z0 z1 z2 z3 z4
            generalize (((((wf.setCell ⟨w.heap.size, 0, none⟩ (.int .i64 4)).setCell ⟨w.heap.size, 1, none⟩ (.int .i64 (-N))).setCell ⟨w.heap.size, 2, none⟩ (.string ⟨#[]⟩)).setCell ⟨w.heap.size, 3, none⟩ (.slice none 0 0)).setCell ⟨w.heap.size, 4, none⟩ (.slice none 0 0)) = WF at *
            obtain ⟨q0, q1, q2, q3, q4⟩ := HFIN.out.cells5
            refine bodyPost_ret (v := .agg #[.int .i64 4, .int .i64 (-N), .string ⟨#[]⟩, .slice none 0 0, .slice none 0 0]) (by simp [results, Try.results50, go_sem, q0, q1, q2, q3, q4]) rfl ?_
            exact RNum.yes E.out ⟨rfl, j, HJ.out, rfl, (HOT.out rb (by omega)).trans HSF.out, HGR.out⟩
end Go.Proofs.Ytnhoecmcbikcnaa
/-! The reference's reader: whole numbers (c). -/
namespace Go.Proofs.Ytnhoecmcbikcnaa
open Go.RowKit Go.PlainAid
set_option linter.unusedVariables false
set_option linter.unusedSimpArgs false
set_option maxRecDepth 100000 in
set_option maxHeartbeats 4000000 in
theorem rnumber_c (rb : Nat) (s : ByteArray) (k1 d : Nat) (w : World) (hrb : rb < w.heap.size) (hk1 : k1 ≤ s.size) (hs : s.size ≤ 1000000) (HC : Hid (((s.toList.drop k1).takeWhile digB).length ≤ 1))
    (HM : Hid (Calls Try.prog 59 #[.pointer (some ⟨rb, 0, none⟩), .int .u8 45] (w.alloc (.cells #[.int .i64 0, .int .i64 0, .string ⟨#[]⟩, .slice none 0 0, .slice none 0 0] 27)) fun e w' => e = .returned (.bool false) ∧ RSt w' rb s k1 d 0 ∧ (w.alloc (.cells #[.int .i64 0, .int .i64 0, .string ⟨#[]⟩, .slice none 0 0, .slice none 0 0] 27)).grownBy w' (some rb))) :
    Calls Try.prog 50 #[.pointer (some ⟨rb, 0, none⟩)] w (RNum rb s d (numTail false (s.toList.drop k1)) w) := by
  obtain ⟨V, hV⟩ : ∃ V, V = numTail false (s.toList.drop k1) := ⟨_, rfl⟩
  rw [← hV]
  have HV : Hid (V = numTail false (s.toList.drop k1)) := hV
  have hb := get_bt s
  clear hV
  have HA : Hid (w.grownBy (w.alloc (.cells #[.int .i64 0, .int .i64 0, .string ⟨#[]⟩, .slice none 0 0, .slice none 0 0] 27)) (some rb)) := World.grownBy_alloc w _ _
  have HY : Hid (Blk (w.alloc (.cells #[.int .i64 0, .int .i64 0, .string ⟨#[]⟩, .slice none 0 0, .slice none 0 0] 27)) w.heap.size 27 #[.int .i64 0, .int .i64 0, .string ⟨#[]⟩, .slice none 0 0, .slice none 0 0]) := Blk.new w _ _
  have HNE : Hid (some w.heap.size ≠ some rb) := by intro e; injection e with e; omega
  go_enter Try.func50, Try.ntmps50
  go_wp2_with fail
  refine HM.out.mono ?_; rintro e w1 ⟨rfl, h1, g1⟩
  have H1 := Lib.hid h1
  have G1 := Lib.hid (HA.out.trans g1)
  have Y1 := Lib.hid (HY.out.grown g1 HNE.out)
  obtain ⟨c0, c1, c2, c3⟩ := h1.cells4
  clear h1 g1 HM HA HY
  have HI0 : Hid (s.toList.drop k1 = [] ++ s.toList.drop k1) := rfl
  have HN0 : Hid (NInv [] 0) := NInv.nil
  go_wp2_with fail
  go_loopg [5] (s.size - k1) (fun g t5 wr => ∃ (j : Nat) (ds : List UInt8) (N : Int), j ≤ s.size ∧ s.size - j ≤ g ∧ k1 + ds.length = j ∧ t5 = .int .i64 N ∧ Hid (s.toList.drop k1 = ds ++ s.toList.drop j) ∧ Hid (NInv ds N) ∧ Hid (RSt wr rb s j d 0) ∧ Hid (w.grownBy wr (some rb)) ∧ Hid (Blk wr w.heap.size 27 #[.int .i64 0, .int .i64 0, .string ⟨#[]⟩, .slice none 0 0, .slice none 0 0]))
  case atStart => exact ⟨k1, [], 0, hk1, Nat.le_refl _, rfl, rfl, HI0, HN0, H1, G1, Y1⟩
  case round =>
    clear HI0 HN0 H1 G1 Y1 c0 c1 c2 c3
    obtain ⟨j, ds, N, hj, hg, hjk, rfl, hl, hp, h0, hw, hy⟩ := hrel
    obtain ⟨wo, rfl⟩ : ∃ wo : World, wo = wr := ⟨_, rfl⟩
    obtain ⟨b, hb1⟩ : ∃ b, b = digH (s.toList.drop j) := ⟨_, rfl⟩
    have HBD := Lib.hid hb1
    clear hb1
    go_upto_region 4 with fail
    go_cut [46] (fun t46 wx => t46 = .bool b ∧ Hid (RSt wx rb s j d 0) ∧ Hid (w.grownBy wx (some rb)) ∧ Hid (Blk wx w.heap.size 27 #[.int .i64 0, .int .i64 0, .string ⟨#[]⟩, .slice none 0 0, .slice none 0 0]))
    case first =>
      obtain ⟨c0, c1, c2, c3⟩ := h0.out.cells4
      have i0 : (0 : Int) ≤ (j : Int) := by omega
      by_cases hlt : j < s.size
      · have i1 : (j : Int) < (s.size : Int) := by omega
        have hdg := HBD.out
        rw [digH_at hlt] at hdg
        by_cases q1 : 48 ≤ bt s j
        · have e1 : decide (48 ≤ bt s j) = true := decide_eq_true q1
          by_cases q2 : bt s j ≤ 57
          · have e2 : decide (bt s j ≤ 57) = true := decide_eq_true q2
            have E : Hid (b = true) := by show _ = _; rw [hdg]; exact decide_eq_true ⟨q1, q2⟩
            clear hdg q1 q2
            go_quiet (fail)
            go_wp2_with fail
            go_meet
            exact ⟨by rw [E.out], h0.out, grown_drewN hw.out _, hy.out⟩
          · have e2 : decide (bt s j ≤ 57) = false := decide_eq_false q2
            have E : Hid (b = false) := by show _ = _; rw [hdg]; exact decide_eq_false (fun h => q2 h.2)
            clear hdg q1 q2
            go_quiet (fail)
            go_wp2_with fail
            go_meet
            exact ⟨by rw [E.out], h0.out, grown_drewN hw.out _, hy.out⟩
        · have e1 : decide (48 ≤ bt s j) = false := decide_eq_false q1
          have E : Hid (b = false) := by show _ = _; rw [hdg]; exact decide_eq_false (fun h => q1 h.1)
          clear hdg q1
          go_quiet (fail)
          go_wp2_with fail
          go_meet
          exact ⟨by rw [E.out], h0.out, grown_drewN hw.out _, hy.out⟩
      · have i1 : ¬ (j : Int) < (s.size : Int) := by omega
        have E : Hid (b = false) := by show _ = _; rw [HBD.out, drop_end s j (by omega)]; rfl
        go_quiet (fail)
        go_wp2_with fail
        go_meet
        exact ⟨by rw [E.out], h0.out, grown_drewN hw.out _, hy.out⟩
    case rest =>
      clear h0 hw hy
      obtain ⟨rfl, h0, hw, hy⟩ := hcut
      obtain ⟨c0, c1, c2, c3⟩ := h0.out.cells4
      have f1 := h0.out.frozen 1
      cases b with
      | true =>
        obtain ⟨u, t, hcu, hdu⟩ := digH_cons HBD.out.symm
        have hlt : j < s.size := by
          rcases Nat.lt_or_ge j s.size with h | h
          · exact h
          · rw [drop_end s j h] at hcu; cases hcu
        obtain ⟨u', hu, hdr⟩ := drop_cons s j hlt
        have hcu2 := hdr.symm.trans hcu
        injection hcu2 with e1 e2
        subst e1; subst e2
        have bd := digB_bd hdu
        have HL2 : Hid (s.toList.drop k1 = (ds ++ [u']) ++ s.toList.drop (j + 1)) := ds_step hl.out hdr
        have i0 : (0 : Int) ≤ (j : Int) := by omega
        have i1 : (j : Int) < (s.size : Int) := by omega
        have hj1 : j + 1 ≤ s.size := by omega
        have hgg : s.size - (j + 1) ≤ gk - 1 := by omega
        have hg1 : 0 < gk := by omega
        have HJK : Hid (k1 + (ds ++ [u']).length = j + 1) := by show _ = _; rw [List.length_append]; simp; omega
        by_cases hN : N ≤ 9007199254740991
        · have HP2 := Lib.hid (hp.out.step hdu hN)
          obtain ⟨M, hM⟩ : ∃ M, M = 10 * N + (bt s j - 48) := ⟨_, rfl⟩
          have HM2 : Hid (NInv (ds ++ [u']) M) := by rw [hM, hu]; exact HP2.out
          have hN0 := hp.out.2.2.2.1
          have dN : decide (N ≤ 9007199254740991) = true := decide_eq_true hN
          have x1 : IntKind.i64.wrap (10 * N) = 10 * N := IntWalk.i64_in _ (by omega)
          have x2 : IntKind.u8.wrap (bt s j - 48) = bt s j - 48 := wraps_u8 _ (by omega) (by omega)
          have x3 : IntKind.i64.wrap (bt s j - 48) = bt s j - 48 := IntWalk.i64_in _ (by omega)
          have x4 : IntKind.i64.wrap (10 * N + (bt s j - 48)) = M := by rw [← hM]; exact IntWalk.i64_in _ (by omega)
          clear hu hdr hcu hdu bd hN0 hN hM hjk hp hl hg HP2
          go_wp2_with fail
          go_quiet (fail)
          go_wp2_with fail
          go_roundg (gk - 1)
          case measure => omega
          case rel => exact ⟨j + 1, ds ++ [u'], M, hj1, hgg, HJK.out, rfl, HL2, HM2, (by have := (h0.out).set_ 1 (.int .i64 ((j + 1 : Nat) : Int)); exact this), grown_set (by first | exact grown_drewN hw.out _ | exact hw.out) 1 _, hy.out.far (fun e => HNE.out (by rw [e])) _⟩
        · have HM2 := Lib.hid (hp.out.big hdu hN)
          have dN : decide (N ≤ 9007199254740991) = false := decide_eq_false hN
          clear hu hdr hcu hdu bd hN hjk hp hl hg
          go_wp2_with fail
          go_roundg (gk - 1)
          case measure => omega
          case rel => exact ⟨j + 1, ds ++ [u'], N, hj1, hgg, HJK.out, rfl, HL2, HM2, (by have := (h0.out).set_ 1 (.int .i64 ((j + 1 : Nat) : Int)); exact this), grown_set hw.out 1 _, hy.out.far (fun e => HNE.out (by rw [e])) _⟩
      | false =>
        have hend := numTail_val false hp.out.1 HBD.out.symm
        rw [← hl.out, ← HV.out] at hend
        have HEND := Lib.hid hend
        obtain ⟨n, hn⟩ : ∃ n, n = ds.length := ⟨_, rfl⟩
        have HNL := Lib.hid hn
        have HNC : n ≤ 1 := by have h1 := HC.out; rw [hl.out, takeW_app hp.out.1, (takeW_none HBD.out.symm).1, List.append_nil, ← hn] at h1; exact h1
        clear HC
        have hjk2 : (j : Int) - (k1 : Int) = (n : Int) := by omega
        have hn5 : n ≤ 1000000 := by omega
        have HHD : Hid (ds ≠ [] → (ds.head? = some 48 ↔ bt s k1 = 48)) := by
          intro hne
          cases ds with
          | nil => exact absurd rfl hne
          | cons a ds =>
            have h1 : s.toList[k1]? = some a := by
              have := congrArg List.head? hl.out
              simpa [List.head?_drop] using this
            have h2 := bt_eq s k1 a h1
            show some a = some 48 ↔ _
            rw [h2]
            constructor
            · intro e; injection e with e; rw [e]; rfl
            · intro e; congr 1; exact UInt8.toNat_inj.1 (by have e3 : ((48 : UInt8).toNat) = 48 := rfl; omega)
        have HNV : Hid (valD 0 ds = N ∨ 9007199254740991 < N) := by
          rcases (by omega : N ≤ 9007199254740991 ∨ 9007199254740991 < N) with h | h
          · exact .inl (hp.out.2.1 h).symm
          · exact .inr h
        have HNB : Hid (9007199254740991 < N → 9007199254740991 < valD 0 ds) := hp.out.2.2.1
        have HN0 : Hid (0 ≤ N ∧ N ≤ 90071992547409919) := hp.out.2.2.2
        have k0 : (0 : Int) ≤ (k1 : Int) := by omega
        have i0 : (0 : Int) ≤ (j : Int) := by omega
        have HK1J : Hid (k1 < s.size ∨ n = 0) := by show _ ∨ _; omega
        have HJ := Lib.hid hj
        clear hend hn hjk hp hl hg hk1
        go_upto_region 9 with fail
        go_cut [149] (fun t wx => t = .bool V.isNone ∧ Hid (RSt wx rb s j d 0) ∧ Hid (w.grownBy wx (some rb)) ∧ Hid (Blk wx w.heap.size 27 #[.int .i64 0, .int .i64 0, .string ⟨#[]⟩, .slice none 0 0, .slice none 0 0]))
        case first =>
          dsimp only [List.append]
          refine wp_region_quiet_lit (by kernel_rfl) (by kernel_rfl) ?_
          by_cases hn0 : n = 0
          · have e0 : ((n : Int) == 0) = true := by rw [beq_iff_eq]; omega
            have E : Hid (V.isNone = true) := by show _ = _; rw [HEND.out, if_pos (.inl (List.eq_nil_of_length_eq_zero (by rw [← HNL.out]; exact hn0)))]; rfl
            clear hn0 HNC HEND HNV HNB HHD
            repeat (go_big_quiet_step (fail))
            refine wpQuiet_nil ?_
            intro _ hw9
            obtain ⟨nq, hw8⟩ := hw9
            subst hw8
            go_wp2_with fail
            go_meet
            exact ⟨by rw [E.out], h0.out, grown_drewN hw.out _, hy.out⟩
          have e0 : ((n : Int) == 0) = false := by rw [beq_eq_false_iff_ne]; omega
          have hne : ds ≠ [] := fun e => hn0 (by rw [HNL.out, e]; rfl)
          have kl : (k1 : Int) < (s.size : Int) := by rcases HK1J.out with h | h; omega; exact absurd h hn0
          have e1 : decide (1 < (n : Int)) = false := decide_eq_false (by omega)
          by_cases hbig : 9007199254740991 < N
          · have e3 : decide (9007199254740991 < N) = true := decide_eq_true hbig
            have E : Hid (V.isNone = true) := by show _ = _; rw [HEND.out, if_pos (.inr (.inr (.inl (HNB.out hbig))))]; rfl
            clear hne hn0 HNC hbig HEND HNV HNB HHD
            repeat (go_big_quiet_step (fail))
            refine wpQuiet_nil ?_
            intro _ hw9
            obtain ⟨nq, hw8⟩ := hw9
            subst hw8
            go_wp2_with fail
            go_meet
            exact ⟨by rw [E.out], h0.out, grown_drewN hw.out _, hy.out⟩
          have e3 : decide (9007199254740991 < N) = false := decide_eq_false hbig
          have hval : valD 0 ds = N := by rcases HNV.out with h | h; exact h; exact absurd h hbig
          have hC : ¬ 9007199254740991 < valD 0 ds := by rw [hval]; exact hbig
          clear hbig
          by_cases hlt : j < s.size
          · have i1 : (j : Int) < (s.size : Int) := by omega
            by_cases q46 : bt s j = 46
            · have b46 : (bt s j == 46) = true := by rw [beq_iff_eq]; exact q46
              have E : Hid (V.isNone = true) := by show _ = _; rw [HEND.out, if_pos (.inr (.inr (.inr (.inr (by rw [pointB_at hlt]; exact decide_eq_true (by omega))))))]; rfl
              clear hne hn0 HNC hval hC hlt q46 HEND HNV HNB HHD
              repeat (go_big_quiet_step (fail))
              refine wpQuiet_nil ?_
              intro _ hw9
              obtain ⟨nq, hw8⟩ := hw9
              subst hw8
              go_wp2_with fail
              go_meet
              exact ⟨by rw [E.out], h0.out, grown_drewN hw.out _, hy.out⟩
            have b46 : (bt s j == 46) = false := by rw [beq_eq_false_iff_ne]; exact q46
            by_cases q101 : bt s j = 101
            · have b101 : (bt s j == 101) = true := by rw [beq_iff_eq]; exact q101
              have E : Hid (V.isNone = true) := by show _ = _; rw [HEND.out, if_pos (.inr (.inr (.inr (.inr (by rw [pointB_at hlt]; exact decide_eq_true (by omega))))))]; rfl
              clear hne hn0 HNC hval hC hlt q46 q101 HEND HNV HNB HHD
              repeat (go_big_quiet_step (fail))
              refine wpQuiet_nil ?_
              intro _ hw9
              obtain ⟨nq, hw8⟩ := hw9
              subst hw8
              go_wp2_with fail
              go_meet
              exact ⟨by rw [E.out], h0.out, grown_drewN hw.out _, hy.out⟩
            have b101 : (bt s j == 101) = false := by rw [beq_eq_false_iff_ne]; exact q101
            by_cases q69 : bt s j = 69
            · have b69 : (bt s j == 69) = true := by rw [beq_iff_eq]; exact q69
              have E : Hid (V.isNone = true) := by show _ = _; rw [HEND.out, if_pos (.inr (.inr (.inr (.inr (by rw [pointB_at hlt]; exact decide_eq_true (by omega))))))]; rfl
              clear hne hn0 HNC hval hC hlt q46 q101 q69 HEND HNV HNB HHD
              repeat (go_big_quiet_step (fail))
              refine wpQuiet_nil ?_
              intro _ hw9
              obtain ⟨nq, hw8⟩ := hw9
              subst hw8
              go_wp2_with fail
              go_meet
              exact ⟨by rw [E.out], h0.out, grown_drewN hw.out _, hy.out⟩
            have b69 : (bt s j == 69) = false := by rw [beq_eq_false_iff_ne]; exact q69
            have E : Hid (V.isNone = false) := by show _ = _; rw [HEND.out, if_neg (fun h => by rcases h with h | h | h | h | h; exact hne h; exact (fun h => by have := h.1; rw [← HNL.out] at this; exact absurd HNC (by omega)) h; exact hC h; exact (fun h => by cases h.1) h; rw [pointB_at hlt, decide_eq_true_eq] at h; omega)]; rfl
            clear hne hn0 HNC hval hC hlt q46 q101 q69 HEND HNV HNB HHD
            repeat (go_big_quiet_step (fail))
            refine wpQuiet_nil ?_
            intro _ hw9
            obtain ⟨nq, hw8⟩ := hw9
            subst hw8
            go_wp2_with fail
            go_meet
            exact ⟨by rw [E.out], h0.out, grown_drewN hw.out _, hy.out⟩
          · have i1 : ¬ (j : Int) < (s.size : Int) := by omega
            have E : Hid (V.isNone = false) := by show _ = _; rw [HEND.out, if_neg (fun h => by rcases h with h | h | h | h | h; exact hne h; exact (fun h => by have := h.1; rw [← HNL.out] at this; exact absurd HNC (by omega)) h; exact hC h; exact (fun h => by cases h.1) h; rw [drop_end s j (by omega)] at h; cases h)]; rfl
            clear hne hn0 HNC hval hC hlt HEND HNV HNB HHD
            repeat (go_big_quiet_step (fail))
            refine wpQuiet_nil ?_
            intro _ hw9
            obtain ⟨nq, hw8⟩ := hw9
            subst hw8
            go_wp2_with fail
            go_meet
            exact ⟨by rw [E.out], h0.out, grown_drewN hw.out _, hy.out⟩
        case rest =>
          clear h0 hw hy c0 c1 c2 c3 f1 HNC
          obtain ⟨rfl, h0, hw, hy⟩ := hcut
          obtain ⟨x, hx⟩ : ∃ x, x = IntKind.i64.wrap (-N) := ⟨_, rfl⟩
          have hx2 : x = -N := by rw [hx]; have := HN0.out; exact IntWalk.i64_in _ (by omega)
          have HX := Lib.hid hx2
          have hwx : IntKind.i64.wrap (-N) = -N := by rw [← hx]; exact hx2
          have HVN : Hid (V.isNone = true → V = none) := fun h => by cases hv : V with | none => rfl | some p => rw [hv] at h; cases h
          have HVS : Hid (V.isNone = false → V = some (if false = true then -N else N, s.toList.drop j)) := fun h => by
            have h1 := HEND.out
            split at h1
            · rw [h1] at h; cases h
            · rename_i hc
              have : valD 0 ds = N := by rcases HNV.out with h | h; exact h; exact absurd (HNB.out h) (fun hh => hc (.inr (.inr (.inl hh))))
              rw [h1, this]
          clear hx hx2 HEND HNV HNB HHD
          generalize V.isNone = vb at *
          cases vb with
          | true =>
            have E := Lib.hid (HVN.out rfl)
            clear HVN HVS
            go_wp2_with fail
            refine (rfail_0 rb s j d 3 _ h0.out).mono ?_; rintro e w9 ⟨rfl, h9, g9⟩
            have HSF := Lib.hid h9
            have HWF := Lib.hid (hw.out.trans g9)
            have HYF := Lib.hid (hy.out.grown g9 HNE.out)
            obtain ⟨wf, rfl⟩ : ∃ wf : World, wf = w9 := ⟨_, rfl⟩
            clear h9 g9 h0 hw hy
            obtain ⟨z0, z1, z2, z3, z4⟩ := HYF.out.cells5
            have f0 := HYF.out.frozen 0
            have f1 := HYF.out.frozen 1
            have f2 := HYF.out.frozen 2
            have f3 := HYF.out.frozen 3
            have f4 := HYF.out.frozen 4
            obtain ⟨hfin, hgr, hsz, hot⟩ := laid5 HYF.out HWF.out (Nat.le_refl _) (.int .i64 4) (.int .i64 (N)) (.string ⟨#[]⟩) (.slice none 0 0) (.slice none 0 0)
            have HFIN := Lib.hid hfin
            have HGR := Lib.hid hgr
            have HOT := Lib.hid hot
            clear hfin hgr hsz hot
            go_wp2_with fail
            clear f0 f1 f2 f3 f4 z0 z1 z2 z3 z4
            generalize (((((wf.setCell ⟨w.heap.size, 0, none⟩ (.int .i64 4)).setCell ⟨w.heap.size, 1, none⟩ (.int .i64 (N))).setCell ⟨w.heap.size, 2, none⟩ (.string ⟨#[]⟩)).setCell ⟨w.heap.size, 3, none⟩ (.slice none 0 0)).setCell ⟨w.heap.size, 4, none⟩ (.slice none 0 0)) = WF at *
            obtain ⟨q0, q1, q2, q3, q4⟩ := HFIN.out.cells5
            refine bodyPost_ret (v := .agg #[.int .i64 4, .int .i64 (N), .string ⟨#[]⟩, .slice none 0 0, .slice none 0 0]) (by simp [results, Try.results50, go_sem, q0, q1, q2, q3, q4]) rfl ?_
            exact RNum.no E.out ⟨⟨_, _, _, _, _, _, _, _, _, rfl⟩, j, HJ.out, (HOT.out rb (by omega)).trans HSF.out, HGR.out⟩
          | false =>
            have HSF := h0
            have HWF := hw
            have HYF := hy
            obtain ⟨wf, rfl⟩ : ∃ wf : World, wf = wc := ⟨_, rfl⟩
            clear h0 hw hy
            have E : Hid (V = some (N, s.toList.drop j)) := HVS.out rfl
            clear HVN HVS
            obtain ⟨z0, z1, z2, z3, z4⟩ := HYF.out.cells5
            have f0 := HYF.out.frozen 0
            have f1 := HYF.out.frozen 1
            have f2 := HYF.out.frozen 2
            have f3 := HYF.out.frozen 3
            have f4 := HYF.out.frozen 4
            obtain ⟨hfin, hgr, hsz, hot⟩ := laid5 HYF.out HWF.out (Nat.le_refl _) (.int .i64 4) (.int .i64 (N)) (.string ⟨#[]⟩) (.slice none 0 0) (.slice none 0 0)
            have HFIN := Lib.hid hfin
            have HGR := Lib.hid hgr
            have HOT := Lib.hid hot
            clear hfin hgr hsz hot
            go_wp2_with fail
            clear f0 f1 f2 f3 f4 z0 z1 z2 z3 z4
            generalize (((((wf.setCell ⟨w.heap.size, 0, none⟩ (.int .i64 4)).setCell ⟨w.heap.size, 1, none⟩ (.int .i64 (N))).setCell ⟨w.heap.size, 2, none⟩ (.string ⟨#[]⟩)).setCell ⟨w.heap.size, 3, none⟩ (.slice none 0 0)).setCell ⟨w.heap.size, 4, none⟩ (.slice none 0 0)) = WF at *
            obtain ⟨q0, q1, q2, q3, q4⟩ := HFIN.out.cells5
            refine bodyPost_ret (v := .agg #[.int .i64 4, .int .i64 (N), .string ⟨#[]⟩, .slice none 0 0, .slice none 0 0]) (by simp [results, Try.results50, go_sem, q0, q1, q2, q3, q4]) rfl ?_
            exact RNum.yes E.out ⟨rfl, j, HJ.out, rfl, (HOT.out rb (by omega)).trans HSF.out, HGR.out⟩
end Go.Proofs.Ytnhoecmcbikcnaa
/-! The reference's reader: whole numbers (d). -/
namespace Go.Proofs.Ytnhoecmcbikcnaa
open Go.RowKit Go.PlainAid
set_option linter.unusedVariables false
set_option linter.unusedSimpArgs false
set_option maxRecDepth 100000 in
set_option maxHeartbeats 4000000 in
theorem rnumber_d (rb : Nat) (s : ByteArray) (k1 d : Nat) (w : World) (hrb : rb < w.heap.size) (hk1 : k1 ≤ s.size) (hs : s.size ≤ 1000000) (HC : Hid (1 < ((s.toList.drop k1).takeWhile digB).length))
    (HM : Hid (Calls Try.prog 59 #[.pointer (some ⟨rb, 0, none⟩), .int .u8 45] (w.alloc (.cells #[.int .i64 0, .int .i64 0, .string ⟨#[]⟩, .slice none 0 0, .slice none 0 0] 27)) fun e w' => e = .returned (.bool false) ∧ RSt w' rb s k1 d 0 ∧ (w.alloc (.cells #[.int .i64 0, .int .i64 0, .string ⟨#[]⟩, .slice none 0 0, .slice none 0 0] 27)).grownBy w' (some rb))) :
    Calls Try.prog 50 #[.pointer (some ⟨rb, 0, none⟩)] w (RNum rb s d (numTail false (s.toList.drop k1)) w) := by
  obtain ⟨V, hV⟩ : ∃ V, V = numTail false (s.toList.drop k1) := ⟨_, rfl⟩
  rw [← hV]
  have HV : Hid (V = numTail false (s.toList.drop k1)) := hV
  have hb := get_bt s
  clear hV
  have HA : Hid (w.grownBy (w.alloc (.cells #[.int .i64 0, .int .i64 0, .string ⟨#[]⟩, .slice none 0 0, .slice none 0 0] 27)) (some rb)) := World.grownBy_alloc w _ _
  have HY : Hid (Blk (w.alloc (.cells #[.int .i64 0, .int .i64 0, .string ⟨#[]⟩, .slice none 0 0, .slice none 0 0] 27)) w.heap.size 27 #[.int .i64 0, .int .i64 0, .string ⟨#[]⟩, .slice none 0 0, .slice none 0 0]) := Blk.new w _ _
  have HNE : Hid (some w.heap.size ≠ some rb) := by intro e; injection e with e; omega
  go_enter Try.func50, Try.ntmps50
  go_wp2_with fail
  refine HM.out.mono ?_; rintro e w1 ⟨rfl, h1, g1⟩
  have H1 := Lib.hid h1
  have G1 := Lib.hid (HA.out.trans g1)
  have Y1 := Lib.hid (HY.out.grown g1 HNE.out)
  obtain ⟨c0, c1, c2, c3⟩ := h1.cells4
  clear h1 g1 HM HA HY
  have HI0 : Hid (s.toList.drop k1 = [] ++ s.toList.drop k1) := rfl
  have HN0 : Hid (NInv [] 0) := NInv.nil
  go_wp2_with fail
  go_loopg [5] (s.size - k1) (fun g t5 wr => ∃ (j : Nat) (ds : List UInt8) (N : Int), j ≤ s.size ∧ s.size - j ≤ g ∧ k1 + ds.length = j ∧ t5 = .int .i64 N ∧ Hid (s.toList.drop k1 = ds ++ s.toList.drop j) ∧ Hid (NInv ds N) ∧ Hid (RSt wr rb s j d 0) ∧ Hid (w.grownBy wr (some rb)) ∧ Hid (Blk wr w.heap.size 27 #[.int .i64 0, .int .i64 0, .string ⟨#[]⟩, .slice none 0 0, .slice none 0 0]))
  case atStart => exact ⟨k1, [], 0, hk1, Nat.le_refl _, rfl, rfl, HI0, HN0, H1, G1, Y1⟩
  case round =>
    clear HI0 HN0 H1 G1 Y1 c0 c1 c2 c3
    obtain ⟨j, ds, N, hj, hg, hjk, rfl, hl, hp, h0, hw, hy⟩ := hrel
    obtain ⟨wo, rfl⟩ : ∃ wo : World, wo = wr := ⟨_, rfl⟩
    obtain ⟨b, hb1⟩ : ∃ b, b = digH (s.toList.drop j) := ⟨_, rfl⟩
    have HBD := Lib.hid hb1
    clear hb1
    go_upto_region 4 with fail
    go_cut [46] (fun t46 wx => t46 = .bool b ∧ Hid (RSt wx rb s j d 0) ∧ Hid (w.grownBy wx (some rb)) ∧ Hid (Blk wx w.heap.size 27 #[.int .i64 0, .int .i64 0, .string ⟨#[]⟩, .slice none 0 0, .slice none 0 0]))
    case first =>
      obtain ⟨c0, c1, c2, c3⟩ := h0.out.cells4
      have i0 : (0 : Int) ≤ (j : Int) := by omega
      by_cases hlt : j < s.size
      · have i1 : (j : Int) < (s.size : Int) := by omega
        have hdg := HBD.out
        rw [digH_at hlt] at hdg
        by_cases q1 : 48 ≤ bt s j
        · have e1 : decide (48 ≤ bt s j) = true := decide_eq_true q1
          by_cases q2 : bt s j ≤ 57
          · have e2 : decide (bt s j ≤ 57) = true := decide_eq_true q2
            have E : Hid (b = true) := by show _ = _; rw [hdg]; exact decide_eq_true ⟨q1, q2⟩
            clear hdg q1 q2
            go_quiet (fail)
            go_wp2_with fail
            go_meet
            exact ⟨by rw [E.out], h0.out, grown_drewN hw.out _, hy.out⟩
          · have e2 : decide (bt s j ≤ 57) = false := decide_eq_false q2
            have E : Hid (b = false) := by show _ = _; rw [hdg]; exact decide_eq_false (fun h => q2 h.2)
            clear hdg q1 q2
            go_quiet (fail)
            go_wp2_with fail
            go_meet
            exact ⟨by rw [E.out], h0.out, grown_drewN hw.out _, hy.out⟩
        · have e1 : decide (48 ≤ bt s j) = false := decide_eq_false q1
          have E : Hid (b = false) := by show _ = _; rw [hdg]; exact decide_eq_false (fun h => q1 h.1)
          clear hdg q1
          go_quiet (fail)
          go_wp2_with fail
          go_meet
          exact ⟨by rw [E.out], h0.out, grown_drewN hw.out _, hy.out⟩
      · have i1 : ¬ (j : Int) < (s.size : Int) := by omega
        have E : Hid (b = false) := by show _ = _; rw [HBD.out, drop_end s j (by omega)]; rfl
        go_quiet (fail)
        go_wp2_with fail
        go_meet
        exact ⟨by rw [E.out], h0.out, grown_drewN hw.out _, hy.out⟩
    case rest =>
      clear h0 hw hy
      obtain ⟨rfl, h0, hw, hy⟩ := hcut
      obtain ⟨c0, c1, c2, c3⟩ := h0.out.cells4
      have f1 := h0.out.frozen 1
      cases b with
      | true =>
        obtain ⟨u, t, hcu, hdu⟩ := digH_cons HBD.out.symm
        have hlt : j < s.size := by
          rcases Nat.lt_or_ge j s.size with h | h
          · exact h
          · rw [drop_end s j h] at hcu; cases hcu
        obtain ⟨u', hu, hdr⟩ := drop_cons s j hlt
        have hcu2 := hdr.symm.trans hcu
        injection hcu2 with e1 e2
        subst e1; subst e2
        have bd := digB_bd hdu
        have HL2 : Hid (s.toList.drop k1 = (ds ++ [u']) ++ s.toList.drop (j + 1)) := ds_step hl.out hdr
        have i0 : (0 : Int) ≤ (j : Int) := by omega
        have i1 : (j : Int) < (s.size : Int) := by omega
        have hj1 : j + 1 ≤ s.size := by omega
        have hgg : s.size - (j + 1) ≤ gk - 1 := by omega
        have hg1 : 0 < gk := by omega
        have HJK : Hid (k1 + (ds ++ [u']).length = j + 1) := by show _ = _; rw [List.length_append]; simp; omega
        by_cases hN : N ≤ 9007199254740991
        · have HP2 := Lib.hid (hp.out.step hdu hN)
          obtain ⟨M, hM⟩ : ∃ M, M = 10 * N + (bt s j - 48) := ⟨_, rfl⟩
          have HM2 : Hid (NInv (ds ++ [u']) M) := by rw [hM, hu]; exact HP2.out
          have hN0 := hp.out.2.2.2.1
          have dN : decide (N ≤ 9007199254740991) = true := decide_eq_true hN
          have x1 : IntKind.i64.wrap (10 * N) = 10 * N := IntWalk.i64_in _ (by omega)
          have x2 : IntKind.u8.wrap (bt s j - 48) = bt s j - 48 := wraps_u8 _ (by omega) (by omega)
          have x3 : IntKind.i64.wrap (bt s j - 48) = bt s j - 48 := IntWalk.i64_in _ (by omega)
          have x4 : IntKind.i64.wrap (10 * N + (bt s j - 48)) = M := by rw [← hM]; exact IntWalk.i64_in _ (by omega)
          clear hu hdr hcu hdu bd hN0 hN hM hjk hp hl hg HP2
          go_wp2_with fail
          go_quiet (fail)
          go_wp2_with fail
          go_roundg (gk - 1)
          case measure => omega
          case rel => exact ⟨j + 1, ds ++ [u'], M, hj1, hgg, HJK.out, rfl, HL2, HM2, (by have := (h0.out).set_ 1 (.int .i64 ((j + 1 : Nat) : Int)); exact this), grown_set (by first | exact grown_drewN hw.out _ | exact hw.out) 1 _, hy.out.far (fun e => HNE.out (by rw [e])) _⟩
        · have HM2 := Lib.hid (hp.out.big hdu hN)
          have dN : decide (N ≤ 9007199254740991) = false := decide_eq_false hN
          clear hu hdr hcu hdu bd hN hjk hp hl hg
          go_wp2_with fail
          go_roundg (gk - 1)
          case measure => omega
          case rel => exact ⟨j + 1, ds ++ [u'], N, hj1, hgg, HJK.out, rfl, HL2, HM2, (by have := (h0.out).set_ 1 (.int .i64 ((j + 1 : Nat) : Int)); exact this), grown_set hw.out 1 _, hy.out.far (fun e => HNE.out (by rw [e])) _⟩
      | false =>
        have hend := numTail_val false hp.out.1 HBD.out.symm
        rw [← hl.out, ← HV.out] at hend
        have HEND := Lib.hid hend
        obtain ⟨n, hn⟩ : ∃ n, n = ds.length := ⟨_, rfl⟩
        have HNL := Lib.hid hn
        have HNC : 1 < n := by have h1 := HC.out; rw [hl.out, takeW_app hp.out.1, (takeW_none HBD.out.symm).1, List.append_nil, ← hn] at h1; exact h1
        clear HC
        have hjk2 : (j : Int) - (k1 : Int) = (n : Int) := by omega
        have hn5 : n ≤ 1000000 := by omega
        have HHD : Hid (ds ≠ [] → (ds.head? = some 48 ↔ bt s k1 = 48)) := by
          intro hne
          cases ds with
          | nil => exact absurd rfl hne
          | cons a ds =>
            have h1 : s.toList[k1]? = some a := by
              have := congrArg List.head? hl.out
              simpa [List.head?_drop] using this
            have h2 := bt_eq s k1 a h1
            show some a = some 48 ↔ _
            rw [h2]
            constructor
            · intro e; injection e with e; rw [e]; rfl
            · intro e; congr 1; exact UInt8.toNat_inj.1 (by have e3 : ((48 : UInt8).toNat) = 48 := rfl; omega)
        have HNV : Hid (valD 0 ds = N ∨ 9007199254740991 < N) := by
          rcases (by omega : N ≤ 9007199254740991 ∨ 9007199254740991 < N) with h | h
          · exact .inl (hp.out.2.1 h).symm
          · exact .inr h
        have HNB : Hid (9007199254740991 < N → 9007199254740991 < valD 0 ds) := hp.out.2.2.1
        have HN0 : Hid (0 ≤ N ∧ N ≤ 90071992547409919) := hp.out.2.2.2
        have k0 : (0 : Int) ≤ (k1 : Int) := by omega
        have i0 : (0 : Int) ≤ (j : Int) := by omega
        have HK1J : Hid (k1 < s.size ∨ n = 0) := by show _ ∨ _; omega
        have HJ := Lib.hid hj
        clear hend hn hjk hp hl hg hk1
        go_upto_region 9 with fail
        go_cut [149] (fun t wx => t = .bool V.isNone ∧ Hid (RSt wx rb s j d 0) ∧ Hid (w.grownBy wx (some rb)) ∧ Hid (Blk wx w.heap.size 27 #[.int .i64 0, .int .i64 0, .string ⟨#[]⟩, .slice none 0 0, .slice none 0 0]))
        case first =>
          dsimp only [List.append]
          refine wp_region_quiet_lit (by kernel_rfl) (by kernel_rfl) ?_
          have hn0 : n ≠ 0 := by omega
          have e0 : ((n : Int) == 0) = false := by rw [beq_eq_false_iff_ne]; omega
          have hne : ds ≠ [] := fun e => hn0 (by rw [HNL.out, e]; rfl)
          have kl : (k1 : Int) < (s.size : Int) := by rcases HK1J.out with h | h; omega; exact absurd h hn0
          have e1 : decide (1 < (n : Int)) = true := decide_eq_true (by omega)
          by_cases hq48 : bt s k1 = 48
          · have e2 : (bt s k1 == 48) = true := by rw [beq_iff_eq]; exact hq48
            have E : Hid (V.isNone = true) := by show _ = _; rw [HEND.out, if_pos (.inr (.inl ⟨by rw [← HNL.out]; exact HNC, (HHD.out hne).2 hq48⟩))]; rfl
            clear hne hn0 hq48 HNC HEND HNV HNB HHD
            repeat (go_big_quiet_step (fail))
            refine wpQuiet_nil ?_
            intro _ hw9
            obtain ⟨nq, hw8⟩ := hw9
            subst hw8
            go_wp2_with fail
            go_meet
            exact ⟨by rw [E.out], h0.out, grown_drewN hw.out _, hy.out⟩
          have e2 : (bt s k1 == 48) = false := by rw [beq_eq_false_iff_ne]; exact hq48
          by_cases hbig : 9007199254740991 < N
          · have e3 : decide (9007199254740991 < N) = true := decide_eq_true hbig
            have E : Hid (V.isNone = true) := by show _ = _; rw [HEND.out, if_pos (.inr (.inr (.inl (HNB.out hbig))))]; rfl
            clear hne hn0 HNC hq48 hbig HEND HNV HNB HHD
            repeat (go_big_quiet_step (fail))
            refine wpQuiet_nil ?_
            intro _ hw9
            obtain ⟨nq, hw8⟩ := hw9
            subst hw8
            go_wp2_with fail
            go_meet
            exact ⟨by rw [E.out], h0.out, grown_drewN hw.out _, hy.out⟩
          have e3 : decide (9007199254740991 < N) = false := decide_eq_false hbig
          have hval : valD 0 ds = N := by rcases HNV.out with h | h; exact h; exact absurd h hbig
          have hC : ¬ 9007199254740991 < valD 0 ds := by rw [hval]; exact hbig
          clear hbig
          by_cases hlt : j < s.size
          · have i1 : (j : Int) < (s.size : Int) := by omega
            by_cases q46 : bt s j = 46
            · have b46 : (bt s j == 46) = true := by rw [beq_iff_eq]; exact q46
              have E : Hid (V.isNone = true) := by show _ = _; rw [HEND.out, if_pos (.inr (.inr (.inr (.inr (by rw [pointB_at hlt]; exact decide_eq_true (by omega))))))]; rfl
              clear hne hn0 HNC hq48 hval hC hlt q46 HEND HNV HNB HHD
              repeat (go_big_quiet_step (fail))
              refine wpQuiet_nil ?_
              intro _ hw9
              obtain ⟨nq, hw8⟩ := hw9
              subst hw8
              go_wp2_with fail
              go_meet
              exact ⟨by rw [E.out], h0.out, grown_drewN hw.out _, hy.out⟩
            have b46 : (bt s j == 46) = false := by rw [beq_eq_false_iff_ne]; exact q46
            by_cases q101 : bt s j = 101
            · have b101 : (bt s j == 101) = true := by rw [beq_iff_eq]; exact q101
              have E : Hid (V.isNone = true) := by show _ = _; rw [HEND.out, if_pos (.inr (.inr (.inr (.inr (by rw [pointB_at hlt]; exact decide_eq_true (by omega))))))]; rfl
              clear hne hn0 HNC hq48 hval hC hlt q46 q101 HEND HNV HNB HHD
              repeat (go_big_quiet_step (fail))
              refine wpQuiet_nil ?_
              intro _ hw9
              obtain ⟨nq, hw8⟩ := hw9
              subst hw8
              go_wp2_with fail
              go_meet
              exact ⟨by rw [E.out], h0.out, grown_drewN hw.out _, hy.out⟩
            have b101 : (bt s j == 101) = false := by rw [beq_eq_false_iff_ne]; exact q101
            by_cases q69 : bt s j = 69
            · have b69 : (bt s j == 69) = true := by rw [beq_iff_eq]; exact q69
              have E : Hid (V.isNone = true) := by show _ = _; rw [HEND.out, if_pos (.inr (.inr (.inr (.inr (by rw [pointB_at hlt]; exact decide_eq_true (by omega))))))]; rfl
              clear hne hn0 HNC hq48 hval hC hlt q46 q101 q69 HEND HNV HNB HHD
              repeat (go_big_quiet_step (fail))
              refine wpQuiet_nil ?_
              intro _ hw9
              obtain ⟨nq, hw8⟩ := hw9
              subst hw8
              go_wp2_with fail
              go_meet
              exact ⟨by rw [E.out], h0.out, grown_drewN hw.out _, hy.out⟩
            have b69 : (bt s j == 69) = false := by rw [beq_eq_false_iff_ne]; exact q69
            have E : Hid (V.isNone = false) := by show _ = _; rw [HEND.out, if_neg (fun h => by rcases h with h | h | h | h | h; exact hne h; exact (fun h => hq48 ((HHD.out hne).1 h.2)) h; exact hC h; exact (fun h => by cases h.1) h; rw [pointB_at hlt, decide_eq_true_eq] at h; omega)]; rfl
            clear hne hn0 HNC hq48 hval hC hlt q46 q101 q69 HEND HNV HNB HHD
            repeat (go_big_quiet_step (fail))
            refine wpQuiet_nil ?_
            intro _ hw9
            obtain ⟨nq, hw8⟩ := hw9
            subst hw8
            go_wp2_with fail
            go_meet
            exact ⟨by rw [E.out], h0.out, grown_drewN hw.out _, hy.out⟩
          · have i1 : ¬ (j : Int) < (s.size : Int) := by omega
            have E : Hid (V.isNone = false) := by show _ = _; rw [HEND.out, if_neg (fun h => by rcases h with h | h | h | h | h; exact hne h; exact (fun h => hq48 ((HHD.out hne).1 h.2)) h; exact hC h; exact (fun h => by cases h.1) h; rw [drop_end s j (by omega)] at h; cases h)]; rfl
            clear hne hn0 HNC hq48 hval hC hlt HEND HNV HNB HHD
            repeat (go_big_quiet_step (fail))
            refine wpQuiet_nil ?_
            intro _ hw9
            obtain ⟨nq, hw8⟩ := hw9
            subst hw8
            go_wp2_with fail
            go_meet
            exact ⟨by rw [E.out], h0.out, grown_drewN hw.out _, hy.out⟩
        case rest =>
          clear h0 hw hy c0 c1 c2 c3 f1 HNC
          obtain ⟨rfl, h0, hw, hy⟩ := hcut
          obtain ⟨x, hx⟩ : ∃ x, x = IntKind.i64.wrap (-N) := ⟨_, rfl⟩
          have hx2 : x = -N := by rw [hx]; have := HN0.out; exact IntWalk.i64_in _ (by omega)
          have HX := Lib.hid hx2
          have hwx : IntKind.i64.wrap (-N) = -N := by rw [← hx]; exact hx2
          have HVN : Hid (V.isNone = true → V = none) := fun h => by cases hv : V with | none => rfl | some p => rw [hv] at h; cases h
          have HVS : Hid (V.isNone = false → V = some (if false = true then -N else N, s.toList.drop j)) := fun h => by
            have h1 := HEND.out
            split at h1
            · rw [h1] at h; cases h
            · rename_i hc
              have : valD 0 ds = N := by rcases HNV.out with h | h; exact h; exact absurd (HNB.out h) (fun hh => hc (.inr (.inr (.inl hh))))
              rw [h1, this]
          clear hx hx2 HEND HNV HNB HHD
          generalize V.isNone = vb at *
          cases vb with
          | true =>
            have E := Lib.hid (HVN.out rfl)
            clear HVN HVS
            go_wp2_with fail
            refine (rfail_0 rb s j d 3 _ h0.out).mono ?_; rintro e w9 ⟨rfl, h9, g9⟩
            have HSF := Lib.hid h9
            have HWF := Lib.hid (hw.out.trans g9)
            have HYF := Lib.hid (hy.out.grown g9 HNE.out)
            obtain ⟨wf, rfl⟩ : ∃ wf : World, wf = w9 := ⟨_, rfl⟩
            clear h9 g9 h0 hw hy
            obtain ⟨z0, z1, z2, z3, z4⟩ := HYF.out.cells5
            have f0 := HYF.out.frozen 0
            have f1 := HYF.out.frozen 1
            have f2 := HYF.out.frozen 2
            have f3 := HYF.out.frozen 3
            have f4 := HYF.out.frozen 4
            obtain ⟨hfin, hgr, hsz, hot⟩ := laid5 HYF.out HWF.out (Nat.le_refl _) (.int .i64 4) (.int .i64 (N)) (.string ⟨#[]⟩) (.slice none 0 0) (.slice none 0 0)
            have HFIN := Lib.hid hfin
            have HGR := Lib.hid hgr
            have HOT := Lib.hid hot
            clear hfin hgr hsz hot
            go_wp2_with fail
            clear f0 f1 f2 f3 f4 z0 z1 z2 z3 z4
            generalize (((((wf.setCell ⟨w.heap.size, 0, none⟩ (.int .i64 4)).setCell ⟨w.heap.size, 1, none⟩ (.int .i64 (N))).setCell ⟨w.heap.size, 2, none⟩ (.string ⟨#[]⟩)).setCell ⟨w.heap.size, 3, none⟩ (.slice none 0 0)).setCell ⟨w.heap.size, 4, none⟩ (.slice none 0 0)) = WF at *
            obtain ⟨q0, q1, q2, q3, q4⟩ := HFIN.out.cells5
            refine bodyPost_ret (v := .agg #[.int .i64 4, .int .i64 (N), .string ⟨#[]⟩, .slice none 0 0, .slice none 0 0]) (by simp [results, Try.results50, go_sem, q0, q1, q2, q3, q4]) rfl ?_
            exact RNum.no E.out ⟨⟨_, _, _, _, _, _, _, _, _, rfl⟩, j, HJ.out, (HOT.out rb (by omega)).trans HSF.out, HGR.out⟩
          | false =>
            have HSF := h0
            have HWF := hw
            have HYF := hy
            obtain ⟨wf, rfl⟩ : ∃ wf : World, wf = wc := ⟨_, rfl⟩
            clear h0 hw hy
            have E : Hid (V = some (N, s.toList.drop j)) := HVS.out rfl
            clear HVN HVS
            obtain ⟨z0, z1, z2, z3, z4⟩ := HYF.out.cells5
            have f0 := HYF.out.frozen 0
            have f1 := HYF.out.frozen 1
            have f2 := HYF.out.frozen 2
            have f3 := HYF.out.frozen 3
            have f4 := HYF.out.frozen 4
            obtain ⟨hfin, hgr, hsz, hot⟩ := laid5 HYF.out HWF.out (Nat.le_refl _) (.int .i64 4) (.int .i64 (N)) (.string ⟨#[]⟩) (.slice none 0 0) (.slice none 0 0)
            have HFIN := Lib.hid hfin
            have HGR := Lib.hid hgr
            have HOT := Lib.hid hot
            clear hfin hgr hsz hot
            go_wp2_with fail
            clear f0 f1 f2 f3 f4 z0 z1 z2 z3 z4
            generalize (((((wf.setCell ⟨w.heap.size, 0, none⟩ (.int .i64 4)).setCell ⟨w.heap.size, 1, none⟩ (.int .i64 (N))).setCell ⟨w.heap.size, 2, none⟩ (.string ⟨#[]⟩)).setCell ⟨w.heap.size, 3, none⟩ (.slice none 0 0)).setCell ⟨w.heap.size, 4, none⟩ (.slice none 0 0)) = WF at *
            obtain ⟨q0, q1, q2, q3, q4⟩ := HFIN.out.cells5
            refine bodyPost_ret (v := .agg #[.int .i64 4, .int .i64 (N), .string ⟨#[]⟩, .slice none 0 0, .slice none 0 0]) (by simp [results, Try.results50, go_sem, q0, q1, q2, q3, q4]) rfl ?_
            exact RNum.yes E.out ⟨rfl, j, HJ.out, rfl, (HOT.out rb (by omega)).trans HSF.out, HGR.out⟩
end Go.Proofs.Ytnhoecmcbikcnaa
/-! What reading the kids of an array keeps; a node appended by a store behind an append. -/
namespace Go.Proofs.Ytnhoecmcbikcnaa
open Go.RowKit Go.PlainAid
set_option linter.unusedVariables false
set_option linter.unusedSimpArgs false
def ValEnd (rb : Nat) (s : ByteArray) (r : Except Int (Nd × List UInt8)) (w : World) (e : Ending) (w' : World) : Prop :=
  match r with
  | .error c => Failed rb s c w e w'
  | .ok (n, l) => ∃ (c0 c1 : Int) (c2 : ByteArray) (c3 : Option Addr) (c4 c5 : Nat) (c6 : Option Addr) (c7 c8 : Nat),
      e = .returned (.agg #[.int .i64 c0, .int .i64 c1, .string c2, .slice c3 c4 c5, .slice c6 c7 c8]) ∧ NdIn w' (Since w w') n [.int .i64 c0, .int .i64 c1, .string c2, .slice c3 c4 c5, .slice c6 c7 c8] ∧ RdTo rb s l w w'
/-- a node appended as one step of a region that draws its order -/
theorem step_pushNd {ops : Array Oper} {o : Oper} {a : Act} {w : World} {K : Act → World → Prop} {Q : Exit → Act → World → Prop} {E : Prop}
    (hg : o.guard = none) (s x : Operand) (hop : o.op = Op.call { callee := Callee.builtin Builtin.append, args := #[s, x], argTypes := #[25, 25] })
    (B : Nat) (v : Value) (n : Nat) (xs : List Value) (hs : a.eval s = v) (hown : w.ownsRow B 27 5 v n xs) (R : Nat) (A : Option Addr) (c : Nat) (news : List Value) (hx : a.eval x = .slice A 1 c) (hr : Reads w R 5 A 1 news) (h1 : ∀ u ∈ news, u.oneCell' = true)
    (hlim : n + 1 ≤ 1000000000000) (hB : B ≤ w.heap.size)
    (hK : ∀ v' w', w'.ownsRow B 27 5 v' (n + 1) (xs ++ news) → w.grownBy w' v.ownBlock → (v'.ownBlock = v.ownBlock ∨ ∃ g, v'.ownBlock = some g ∧ w.heap.size ≤ g) → K (a.put o.dst v') w') :
    if Region.wanted o (yielded ops a.tmps) = true then Oper.wp Try.prog o a w K Q else E := by
  have hw : Region.wanted o (yielded ops a.tmps) = true := by simp [Region.wanted, hg]
  rw [if_pos hw]
  obtain ⟨i0, hi0, hz0, hz1, hz2⟩ := info_parts nodeInfo
  obtain ⟨v', w', h1', h2, h3, h4⟩ := run_append_any (P := Try.prog) w B 25 o.type 27 i0 _ 5 80 Try.underlying25 hi0 hz0 hz1 hz2 rfl (by omega) v n _ hown R A 1 c news hr h1 (by simp only [maxLen]; omega) (by omega) hB
  unfold Oper.wp execOp
  simp only [hop, resolve, invoke, builtin, Sem.run_bind, Sem.run_pure, Result.andThen_ok, List.map_toArray, List.map_cons, List.map_nil, hs, hx, h1']
  refine hK _ _ h2 h3 ?_
  rcases h4 with h4 | h4
  · exact .inl h4
  · exact .inr ⟨_, h4, Nat.le_refl _⟩
def zero5 : List Value := [.int .i64 0, .int .i64 0, .string ⟨#[]⟩, .slice none 0 0, .slice none 0 0]
/-- the last node of a slice of the call's own, written in place -/
theorem own_last {w : World} {B g n cap : Nat} {ys : List Value} {z0 z1 z2 z3 z4 v0 v1 v2 v3 v4 : Value} (h : w.ownsRow B 27 5 (.slice (some ⟨g, 0, none⟩) (n + 1) cap) (n + 1) (ys ++ [z0, z1, z2, z3, z4])) (hy : ys.length = n * 5) :
    ((((((w.setCell ⟨g, n * 5, none⟩ v0).setCell ⟨g, n * 5 + 1, none⟩ v1).setCell ⟨g, n * 5 + 2, none⟩ v2).setCell ⟨g, n * 5 + 3, none⟩ v3).setCell ⟨g, n * 5 + 4, none⟩ v4)).ownsRow B 27 5 (.slice (some ⟨g, 0, none⟩) (n + 1) cap) (n + 1) (ys ++ [v0, v1, v2, v3, v4]) ∧
    w.grownBy ((((((w.setCell ⟨g, n * 5, none⟩ v0).setCell ⟨g, n * 5 + 1, none⟩ v1).setCell ⟨g, n * 5 + 2, none⟩ v2).setCell ⟨g, n * 5 + 3, none⟩ v3).setCell ⟨g, n * 5 + 4, none⟩ v4)) (some g) := by
  have s0 := h.stored (n * 5) v0
  have s1 := s0.1.stored (n * 5 + 1) v1
  have s2 := s1.1.stored (n * 5 + 2) v2
  have s3 := s2.1.stored (n * 5 + 3) v3
  have s4 := s3.1.stored (n * 5 + 4) v4
  refine ⟨?_, (((s0.2.trans s1.2).trans s2.2).trans s3.2).trans s4.2⟩
  have e : ((((((ys ++ [z0, z1, z2, z3, z4]).set (n * 5) v0).set (n * 5 + 1) v1).set (n * 5 + 2) v2).set (n * 5 + 3) v3).set (n * 5 + 4) v4) = ys ++ [v0, v1, v2, v3, v4] := by
    rw [← hy]
    simp [List.set_append]
  rw [← e]
  exact s4.1
/-- the kids read so far; what the call's own variables hold -/
structure AInv (w0 : World) (nb rB dB rb h : Nat) (deep : Int) (ns : List Nd) (w : World) (A : Option Addr) (c : Nat) (ys : List Value) : Prop where
  node : Blk w nb 27 #[.int .i64 6, .int .i64 0, .string ⟨#[]⟩, .slice none 0 0, .slice A ns.length c]
  own : w.ownsRow h 27 5 (.slice A ns.length c) ns.length ys
  kids : NdsIn w (SK h w (.slice A ns.length c)) ns ys
  rbox : Blk w rB 53 #[.pointer (some ⟨rb, 0, none⟩)]
  dbox : Blk w dB 3 #[.int .i64 deep]
  grow : w0.grownBy w (some rb)
  size : h ≤ w.heap.size
def AIs (w0 : World) (nb rB dB rb h : Nat) (deep : Int) (ns : List Nd) (w : World) : Prop := ∃ A c ys, AInv w0 nb rB dB rb h deep ns w A c ys
theorem AInv.next {w0 : World} {nb rB dB rb h : Nat} {deep : Int} {ns : List Nd} {w w' : World} {A : Option Addr} {c : Nat} {ys : List Value} (hI : AInv w0 nb rB dB rb h deep ns w A c ys) (hg : w.grownBy w' (some rb)) (h1 : rb < h) (h2 : nb ≠ rb) (h3 : rB ≠ rb) (h4 : dB ≠ rb) : AInv w0 nb rB dB rb h deep ns w' A c ys := by
  have ho : ∀ g, (Value.slice A ns.length c).ownBlock = some g → h ≤ g ∧ g < w.heap.size := fun g hg => own_lt hI.own hg
  refine ⟨hI.node.grown hg (by intro e; injection e with e; exact h2 e), World.ownsRow.kept hI.own hg (Or.inr (fun e => by have := (ho rb e).1; omega)), ?_, hI.rbox.grown hg (by intro e; injection e with e; exact h3 e), hI.dbox.grown hg (by intro e; injection e with e; exact h4 e), hI.grow.trans hg, Nat.le_trans hI.size hg.size⟩
  exact NdsIn.keep (fun p hp => World.cell?_of_block (hg.block p.block hp.2.1 (fun e => by injection e with e; have := hp.1; omega))) (fun b hb => ⟨hb.1, Nat.lt_of_lt_of_le hb.2.1 hg.size, hb.2.2⟩) _ _ hI.kids
end Go.Proofs.Ytnhoecmcbikcnaa
/-! Plain laws of reading JSON: a quoted text is read as the text. -/
namespace Go.Proofs.Ytnhoecmcbikcnaa
open Go.RowKit Go.PlainAid
set_option linter.unusedVariables false
set_option linter.unusedSimpArgs false
theorem hexD_hexU (k : Nat) (h : k < 16) : hexD (hexU k) = some (k : Int) := by
  have : ∀ i : Fin 16, hexD (hexU i.val) = some ((i.val : Nat) : Int) := by decide
  exact this ⟨k, h⟩
theorem hexD_48 : hexD 48 = some 0 := by decide
theorem unit_ctl (c : UInt8) (h : c.toNat < 256) (l : List UInt8) : unitL 4 0 (48 :: 48 :: hexU (c.toNat / 16) :: hexU (c.toNat % 16) :: l) = some ((c.toNat : Int), l) := by
  have h1 := hexD_hexU (c.toNat / 16) (by omega)
  have h2 := hexD_hexU (c.toNat % 16) (by omega)
  simp only [unitL, hexD_48, h1, h2]
  congr 2
  omega
theorem point_ctl (c : UInt8) (h : c.toNat < 256) (l : List UInt8) : pointL (48 :: 48 :: hexU (c.toNat / 16) :: hexU (c.toNat % 16) :: l) = some ((c.toNat : Int), l) := by
  unfold pointL
  rw [unit_ctl c h]
  simp only
  rw [if_pos (by omega)]
theorem putB_ascii (c : UInt8) (h : c.toNat < 128) : putB (c.toNat : Int) = [c] := by
  rw [putB_of (l := [(c.toNat : Int)]) (by unfold putN; rw [if_neg (by omega), if_pos (by omega)])]
  simp
theorem escL_ctl (c : UInt8) (h : c.toNat < 128) (l : List UInt8) : escL (117 :: 48 :: 48 :: hexU (c.toNat / 16) :: hexU (c.toNat % 16) :: l) = some ([c], l) := by
  unfold escL
  simp only [point_ctl c (by omega) l, putB_ascii c h]
  simp
theorem u8_lt (a b : UInt8) : a < b ↔ a.toNat < b.toNat := UInt8.lt_iff_toNat_lt
theorem ne_of_toNat {a b : UInt8} (h : a.toNat ≠ b.toNat) : a ≠ b := fun e => h (by rw [e])
theorem textT_esc (r acc l b r2 : List UInt8) (h : escL r = some (b, r2)) : textT (92 :: r) acc = textT r2 (acc ++ b) := by
  rw [textT_cons, if_neg (by decide), if_neg (by decide), if_pos rfl, h]
/-- the bytes of a code point above 127 -/
theorem high_all (p : Int) (hp : putB p ≠ []) (h128 : 128 ≤ p) : ∀ c ∈ putB p, 128 ≤ c.toNat := by
  have ha : ¬ p < 128 := by omega
  rw [Ne, putB_nil] at hp
  intro c hc
  unfold putB putN at hc
  rw [if_neg hp, if_neg ha] at hc
  split at hc
  · simp only [List.map_cons, List.map_nil, List.mem_cons, List.not_mem_nil, or_false] at hc
    rcases hc with rfl | rfl
    · have := toNat_ofNat (192 + p / 64) (by omega) (by omega); omega
    · have := toNat_ofNat (128 + p % 64) (by omega) (by omega); omega
  split at hc
  · simp only [List.map_cons, List.map_nil, List.mem_cons, List.not_mem_nil, or_false] at hc
    rcases hc with rfl | rfl | rfl
    · have := toNat_ofNat (224 + p / 4096) (by omega) (by omega); omega
    · have := toNat_ofNat (128 + p / 64 % 64) (by omega) (by omega); omega
    · have := toNat_ofNat (128 + p % 64) (by omega) (by omega); omega
  · simp only [List.map_cons, List.map_nil, List.mem_cons, List.not_mem_nil, or_false] at hc
    rcases hc with rfl | rfl | rfl | rfl
    · have := toNat_ofNat (240 + p / 262144) (by omega) (by omega); omega
    · have := toNat_ofNat (128 + p / 4096 % 64) (by omega) (by omega); omega
    · have := toNat_ofNat (128 + p / 64 % 64) (by omega) (by omega); omega
    · have := toNat_ofNat (128 + p % 64) (by omega) (by omega); omega
theorem high_flat : ∀ t : List UInt8, (∀ c ∈ t, 128 ≤ c.toNat) → t.flatMap escU = t := by
  intro t
  induction t with
  | nil => intro _; rfl
  | cons c t ih =>
    intro h
    have hc := h c (by simp)
    have e : escU c = [c] := by
      unfold escU
      rw [if_neg (by rintro (e | e) <;> (rw [e] at hc; revert hc; decide)), if_pos (by omega)]
    rw [List.flatMap_cons, ih (fun x hx => h x (by simp [hx])), e]
    rfl
theorem low_one (p : Int) (hp : putB p ≠ []) (ha : p < 128) : ∃ c : UInt8, putB p = [c] ∧ (c.toNat : Int) = p := by
  have hb := putN_nonneg p hp
  refine ⟨UInt8.ofNat p.toNat, ?_, toNat_ofNat p (by omega) (by omega)⟩
  rw [putB_of (l := [p]) (by unfold putN; rw [if_neg (by rw [← putB_nil]; exact hp), if_pos ha])]
  rfl
/-- one code point's text is read as its bytes -/
theorem textT_point (p : Int) (hp : putB p ≠ []) (l acc : List UInt8) : textT ((putB p).flatMap escU ++ l) acc = textT l (acc ++ putB p) := by
  have hb := putN_nonneg p hp
  by_cases ha : p < 128
  · obtain ⟨c, hc, hn⟩ := low_one p hp ha
    rw [hc]
    have hd : ∀ l, decL (c :: l) = some (p, 1) := fun l => by
      have := decL_put p l hp
      rw [hc] at this
      simpa using this
    simp only [List.flatMap_cons, List.flatMap_nil, List.append_nil]
    unfold escU
    by_cases h1 : c = 34 ∨ c = 92
    · rw [if_pos h1]
      show textT (92 :: c :: l) acc = _
      refine textT_esc _ _ l _ _ ?_
      unfold escL
      simp only
      rw [if_pos (by rcases h1 with h | h <;> simp [h])]
    rw [if_neg h1]
    by_cases h2 : 32 ≤ c.toNat
    · rw [if_pos h2]
      show textT (c :: l) acc = _
      rw [textT_cons, if_neg (by rw [u8_lt]; simp; omega), if_neg (fun e => h1 (.inl e)), if_neg (fun e => h1 (.inr e)), hd]
      rfl
    rw [if_neg h2]
    by_cases h3 : c = 8
    · rw [if_pos h3, h3]; exact textT_esc _ _ l _ _ rfl
    rw [if_neg h3]
    by_cases h4 : c = 9
    · rw [if_pos h4, h4]; exact textT_esc _ _ l _ _ rfl
    rw [if_neg h4]
    by_cases h5 : c = 10
    · rw [if_pos h5, h5]; exact textT_esc _ _ l _ _ rfl
    rw [if_neg h5]
    by_cases h6 : c = 12
    · rw [if_pos h6, h6]; exact textT_esc _ _ l _ _ rfl
    rw [if_neg h6]
    by_cases h7 : c = 13
    · rw [if_pos h7, h7]; exact textT_esc _ _ l _ _ rfl
    rw [if_neg h7]
    exact textT_esc _ _ l _ _ (escL_ctl c (by omega) l)
  · have hall := high_all p hp (by omega)
    have hf := high_flat _ hall
    rw [hf]
    have hd := decL_put p l hp
    cases hq : putB p with
    | nil => exact absurd hq hp
    | cons c t =>
      rw [hq] at hd hall
      have hc := hall c (by simp)
      show textT (c :: (t ++ l)) acc = _
      rw [textT_cons, if_neg (by rw [u8_lt]; simp; omega), if_neg (by apply ne_of_toNat; simp; omega), if_neg (by apply ne_of_toNat; simp; omega)]
      have hd' : decL (c :: (t ++ l)) = some (p, (c :: t).length) := hd
      rw [hd']
      simp
/-- a text between its signs is read as it -/
theorem textT_quote (t : List UInt8) (h : ValidP t) (acc l : List UInt8) : textT (t.flatMap escU ++ 34 :: l) acc = some (acc ++ t, l) := by
  obtain ⟨rs, hr, rfl⟩ := h
  induction rs generalizing acc with
  | nil =>
    show textT (34 :: l) acc = _
    rw [textT_cons, if_neg (by decide), if_pos rfl]
    simp
  | cons p rs ih =>
    simp only [List.map_cons, List.flatten_cons, List.flatMap_append, List.append_assoc]
    rw [textT_point p (hr p (by simp)), ih (acc ++ putB p) (fun x hx => hr x (by simp [hx]))]
    simp
theorem textL_quote (t : List UInt8) (h : ValidP t) (l : List UInt8) : textL (quoteU t ++ l) = some (t, l) := by
  unfold textL quoteU
  simp only [List.cons_append, List.nil_append, List.append_assoc, List.head?_cons, if_true, List.tail_cons]
  rw [textT_quote t h]
  rfl
theorem quoteU_head (t l : List UInt8) : (quoteU t ++ l).head? = some 34 := rfl
end Go.Proofs.Ytnhoecmcbikcnaa
/-! Plain laws of reading JSON: a number's digits are read as it; a right value's text is read as it. -/
namespace Go.Proofs.Ytnhoecmcbikcnaa
open Go.RowKit Go.PlainAid
set_option linter.unusedVariables false
set_option linter.unusedSimpArgs false
theorem digB_dec (d : Nat) (h : d < 10) : digB (UInt8.ofNat (48 + d)) = true := by
  have : ∀ i : Fin 10, digB (UInt8.ofNat (48 + i.val)) = true := by decide
  exact this ⟨d, h⟩
theorem dec_all : ∀ u : Nat, ∀ c ∈ Lib.decDigits u, digB c = true := by
  intro u
  induction u using Nat.strongRecOn with
  | _ u ih =>
    intro c hc
    by_cases h : u < 10
    · rw [Lib.decDigits, dif_pos h] at hc
      rw [List.mem_singleton.1 hc]
      exact digB_dec u h
    · rw [Lib.decDigits, dif_neg h] at hc
      rw [List.mem_append] at hc
      rcases hc with hc | hc
      · exact ih (u / 10) (by omega) c hc
      · rw [List.mem_singleton.1 hc]
        exact digB_dec _ (by omega)
theorem valD_snoc2 (n : Int) (ds : List UInt8) (c : UInt8) : valD n (ds ++ [c]) = valD n ds * 10 + ((c.toNat : Int) - 48) := by
  unfold valD; rw [List.foldl_append]; rfl
theorem valD_dec (u : Nat) : valD 0 (Lib.decDigits u) = (u : Int) := by
  induction u using Nat.strongRecOn with
  | _ u ih =>
    by_cases h : u < 10
    · rw [Lib.decDigits, dif_pos h]
      unfold valD
      simp; omega
    · rw [Lib.decDigits, dif_neg h, valD_snoc2, ih (u / 10) (by omega)]
      have : ((UInt8.ofNat (48 + u % 10)).toNat : Int) = 48 + (u % 10 : Nat) := by simp; omega
      rw [this]; omega
theorem dec_head (u : Nat) (hu : 0 < u) : (Lib.decDigits u).head? ≠ some 48 := by
  induction u using Nat.strongRecOn with
  | _ u ih =>
    by_cases h : u < 10
    · rw [Lib.decDigits, dif_pos h]
      have : ∀ i : Fin 10, 0 < i.val → (([UInt8.ofNat (48 + i.val)] : List UInt8).head? ≠ some 48) := by decide
      exact this ⟨u, h⟩ hu
    · rw [Lib.decDigits, dif_neg h]
      have h1 := ih (u / 10) (by omega) (by omega)
      have h2 := decDigits_ne (u / 10)
      cases hq : Lib.decDigits (u / 10) with
      | nil => exact absurd hq h2
      | cons c t => rw [hq] at h1; simpa using h1
/-- what may stand behind a number -/
def numEnd (l : List UInt8) : Prop := ∀ c, l.head? = some c → digB c = false ∧ ¬ (c = 46 ∨ c = 101 ∨ c = 69)
theorem takeWhile_app (ds l : List UInt8) (h : ∀ c ∈ ds, digB c = true) (hl : ∀ c, l.head? = some c → digB c = false) : (ds ++ l).takeWhile digB = ds ∧ (ds ++ l).dropWhile digB = l := by
  induction ds with
  | nil =>
    cases l with
    | nil => simp
    | cons c l => have := hl c rfl; simp [List.takeWhile_cons, List.dropWhile_cons, this]
  | cons d ds ih =>
    have hd := h d (by simp)
    have := ih (fun c hc => h c (by simp [hc]))
    simp [List.takeWhile_cons, List.dropWhile_cons, hd, this]
theorem point_end {l : List UInt8} (h : numEnd l) : pointB l = false := by
  cases l with
  | nil => rfl
  | cons c l =>
    have := (h c rfl).2
    unfold pointB
    simp only [Bool.or_eq_false_iff, beq_eq_false_iff_ne]
    exact ⟨⟨fun e => this (.inl e), fun e => this (.inr (.inl e))⟩, fun e => this (.inr (.inr e))⟩
theorem numTail_dec (neg : Bool) (u : Nat) (l : List UInt8) (h : numEnd l) (hm : u ≤ 9007199254740991) (hz : neg = true → 0 < u) :
    numTail neg (Lib.decDigits u ++ l) = some (if neg = true then - (u : Int) else (u : Int), l) := by
  obtain ⟨h1, h2⟩ := takeWhile_app (Lib.decDigits u) l (dec_all u) (fun c hc => (h c hc).1)
  unfold numTail
  rw [h1, h2, valD_dec, if_neg]
  rintro (e | ⟨e1, e2⟩ | e | ⟨e1, e2⟩ | e)
  · exact decDigits_ne u e
  · by_cases hu : 0 < u
    · have := dec_head u hu
      cases hq : Lib.decDigits u with
      | nil => exact decDigits_ne u hq
      | cons c t => rw [hq] at this e2; exact this (by simpa using e2)
    · have : u = 0 := by omega
      subst this
      rw [Lib.decDigits_one (by omega)] at e1
      simp at e1
  · omega
  · have := hz e1; omega
  · rw [point_end h] at e; cases e
theorem numL_itoa (n : Int) (l : List UInt8) (h : numEnd l) (h1 : -9007199254740991 ≤ n) (h2 : n ≤ 9007199254740991) : numL (Lib.itoa n ++ l) = some (n, l) := by
  unfold numL Lib.itoa
  by_cases hn : n < 0
  · rw [if_pos hn]
    simp only [List.cons_append, List.head?_cons, if_true, List.tail_cons]
    rw [numTail_dec true n.natAbs l h (by omega) (fun _ => by omega), if_pos rfl]
    congr 2; omega
  · rw [if_neg hn]
    have hh : (Lib.decDigits n.toNat ++ l).head? ≠ some 45 := by
      cases hq : Lib.decDigits n.toNat with
      | nil => exact absurd hq (decDigits_ne _)
      | cons c t =>
        have := dec_all n.toNat c (by rw [hq]; simp)
        intro e
        simp at e; subst e
        revert this; decide
    rw [if_neg hh, numTail_dec false n.toNat l h (by omega) (fun e => by cases e), if_neg (by simp)]
    congr 2; omega
/-- the first byte of a number's digits -/
theorem itoa_head (n : Int) (l : List UInt8) : ∃ c t, Lib.itoa n ++ l = c :: t ∧ (c = 45 ∨ digB c = true) := by
  unfold Lib.itoa
  split
  · exact ⟨45, _, rfl, .inl rfl⟩
  · cases hq : Lib.decDigits n.toNat with
    | nil => exact absurd hq (decDigits_ne _)
    | cons c t => exact ⟨c, _, rfl, .inr (dec_all n.toNat c (by rw [hq]; simp))⟩
end Go.Proofs.Ytnhoecmcbikcnaa
/-! Plain laws of reading JSON: a right value's text is read as it. -/
namespace Go.Proofs.Ytnhoecmcbikcnaa
open Go.RowKit Go.PlainAid
set_option linter.unusedVariables false
set_option linter.unusedSimpArgs false
theorem valL_deep (deep : Nat) (l : List UInt8) (h : l.head? = some 91 ∨ l.head? = some 123) (hd : 24 ≤ deep) : valL deep l = .error 4 := by
  rw [valL, if_pos ⟨h, hd⟩]
theorem valL_str (deep : Nat) (l : List UInt8) (h : l.head? = some 34) : valL deep l = match textL l with
    | none => .error 3
    | some (t, r) => .ok (.mk 5 0 ⟨t.toArray⟩ [] [], r) := by
  rw [valL, if_neg (by rw [h]; simp), if_neg (by rw [h]; simp), if_neg (by rw [h]; simp), if_pos h]
  cases textL l <;> rfl
/-- no array, no object, no text -/
theorem valL_else (deep : Nat) (l : List UInt8) (h1 : l.head? ≠ some 91) (h2 : l.head? ≠ some 123) (h3 : l.head? ≠ some 34) : valL deep l =
    if l.take 4 = [110, 117, 108, 108] then .ok (nd0 1, l.drop 4)
    else if l.take 5 = [102, 97, 108, 115, 101] then .ok (nd0 2, l.drop 5)
    else if l.take 4 = [116, 114, 117, 101] then .ok (nd0 3, l.drop 4)
    else match numL l with
      | none => .error 3
      | some (n, r) => .ok (.mk 4 n ⟨#[]⟩ [] [], r) := by
  rw [valL, if_neg (by rintro ⟨h | h, _⟩; exact h1 h; exact h2 h), if_neg h1, if_neg h2, if_neg h3]
  cases numL l <;> rfl
theorem take_head {l : List UInt8} {n : Nat} {c : UInt8} {t : List UInt8} (h : l.take n = c :: t) : l.head? = some c := by
  cases l with
  | nil => simp at h
  | cons a l =>
    cases n with
    | zero => simp at h
    | succ n => simp at h; simp [h.1]
theorem valL_num (deep : Nat) (l : List UInt8) (c : UInt8) (hc : l.head? = some c) (h : c = 45 ∨ digB c = true) : valL deep l = match numL l with
      | none => .error 3
      | some (n, r) => .ok (.mk 4 n ⟨#[]⟩ [] [], r) := by
  have hne : ∀ d : UInt8, digB d = false → d ≠ 45 → c ≠ d := by
    rintro d h1 h2 rfl
    rcases h with h | h
    · exact h2 h
    · rw [h] at h1; cases h1
  have hn : ∀ d : UInt8, digB d = false → d ≠ 45 → l.head? ≠ some d := fun d h1 h2 e => by
    rw [hc] at e; injection e with e; exact hne d h1 h2 e
  rw [valL_else deep l (hn _ (by decide) (by decide)) (hn _ (by decide) (by decide)) (hn _ (by decide) (by decide)), if_neg (fun e => hn 110 (by decide) (by decide) (take_head e)), if_neg (fun e => hn 102 (by decide) (by decide) (take_head e)), if_neg (fun e => hn 116 (by decide) (by decide) (take_head e))]
theorem blanks_ne {c : UInt8} (t : List UInt8) (h : blankB c = false) : blanksL (c :: t) = c :: t := by
  unfold blanksL
  rw [List.dropWhile_cons, h]
  rfl
theorem dig_no {c : UInt8} (h : c = 45 ∨ digB c = true) : blankB c = false ∧ c ≠ 93 := by
  rcases h with rfl | h
  · exact ⟨by decide, by decide⟩
  · unfold digB at h
    have h := of_decide_eq_true h
    refine ⟨?_, ne_of_toNat (by simp; omega)⟩
    unfold blankB
    simp only [Bool.or_eq_false_iff, beq_eq_false_iff_ne]
    exact ⟨⟨⟨ne_of_toNat (by simp; omega), ne_of_toNat (by simp; omega)⟩, ne_of_toNat (by simp; omega)⟩, ne_of_toNat (by simp; omega)⟩
/-- a value's text begins with no blank, and does not end an array -/
theorem putU_head (n : Nd) (l : List UInt8) : ∃ c t, putU n ++ l = c :: t ∧ blankB c = false ∧ c ≠ 93 := by
  cases n with
  | mk k num t ks ns =>
    unfold putU
    split
    · exact ⟨110, _, rfl, by decide, by decide⟩
    split
    · exact ⟨102, _, rfl, by decide, by decide⟩
    split
    · exact ⟨116, _, rfl, by decide, by decide⟩
    split
    · obtain ⟨c, t, h1, h2⟩ := itoa_head num l
      exact ⟨c, t, h1, (dig_no h2).1, (dig_no h2).2⟩
    split
    · exact ⟨34, _, rfl, by decide, by decide⟩
    split
    · exact ⟨91, _, rfl, by decide, by decide⟩
    · exact ⟨123, _, rfl, by decide, by decide⟩
theorem blanks_put (n : Nd) (l : List UInt8) : blanksL (putU n ++ l) = putU n ++ l := by
  obtain ⟨c, t, h1, h2, _⟩ := putU_head n l
  rw [h1, blanks_ne t h2]
theorem putL_cons (obj : Bool) (ks : List ByteArray) (n : Nd) (ns : List Nd) (l : List UInt8) :
    putL obj ks (n :: ns) true ++ l = (if obj = true then quoteU (ks.headD ⟨#[]⟩).toList ++ [58] else []) ++ (putU n ++ (putL obj ks.tail ns false ++ l)) := by
  conv => lhs; unfold putL
  simp
theorem putL_more (obj : Bool) (ks : List ByteArray) (n : Nd) (ns : List Nd) (l : List UInt8) : putL obj ks (n :: ns) false ++ l = 44 :: (putL obj ks (n :: ns) true ++ l) := by
  conv => lhs; unfold putL
  conv => rhs; unfold putL
  simp
theorem putL_nil (obj : Bool) (ks : List ByteArray) (first : Bool) (l : List UInt8) : putL obj ks [] first ++ l = l := by unfold putL; rfl
theorem numEnd_sep (c : UInt8) (l : List UInt8) (h : c = 44 ∨ c = 93 ∨ c = 125 ∨ c = 32 ∨ c = 9 ∨ c = 10 ∨ c = 13) : numEnd (c :: l) := by
  intro d hd
  simp at hd; subst hd
  rcases h with rfl | rfl | rfl | rfl | rfl | rfl | rfl <;> exact ⟨by decide, by decide⟩
theorem numEnd_nil : numEnd [] := fun c h => by cases h
theorem numEnd_rest (obj : Bool) (ks : List ByteArray) (ns : List Nd) (e : UInt8) (he : e = 93 ∨ e = 125) (l : List UInt8) : numEnd (putL obj ks ns false ++ e :: l) := by
  cases ns with
  | nil => rw [putL_nil]; exact numEnd_sep e l (by rcases he with h | h <;> simp [h])
  | cons n ns => rw [putL_more]; exact numEnd_sep 44 _ (by simp)
theorem arr_of (ok : Nd → Nat → Prop) (hok : ∀ n deep, ok n deep → ∀ l, numEnd l → valL deep (putU n ++ l) = .ok (n, l)) (deep : Nat) (l : List UInt8) :
    ∀ (ns : List Nd) (ks : List ByteArray) (acc : List Nd), ns ≠ [] → (∀ n ∈ ns, ok n (deep + 1)) → arrL deep (putL false ks ns true ++ 93 :: l) acc = .ok (.mk 6 0 ⟨#[]⟩ [] (acc ++ ns), l)
  | [], ks, acc, h, _ => absurd rfl h
  | n :: ns, ks, acc, _, h => by
    rw [putL_cons, if_neg (by simp), List.nil_append, arrL_eq, blanks_put, hok n _ (h n (by simp)) _ (numEnd_rest false _ ns 93 (.inl rfl) l)]
    simp only
    cases ns with
    | nil =>
      rw [putL_nil, blanks_ne l (by decide)]
      simp
    | cons m ns =>
      rw [putL_more, blanks_ne _ (by decide), if_neg (by simp), if_pos (by simp), List.tail_cons, arr_of ok hok deep l (m :: ns) _ _ (by simp) (fun x hx => h x (by simp at hx ⊢; exact .inr hx))]
      simp
theorem any_not {ks : List ByteArray} {k : ByteArray} (h : k ∉ ks) : ¬ ks.any (fun s => s.toList == k.toList) = true := by
  intro e
  rw [List.any_eq_true] at e
  obtain ⟨s, hs, e⟩ := e
  have : s = k := by
    rw [beq_iff_eq, ByteArray.toList_eq, ByteArray.toList_eq, Array.toList_inj] at e
    exact ByteArray.ext e
  exact h (this ▸ hs)
theorem mk_toList (k : ByteArray) : (⟨k.toList.toArray⟩ : ByteArray) = k := by
  rw [ByteArray.toList_eq]
theorem obj_of (ok : Nd → Nat → Prop) (hok : ∀ n deep, ok n deep → ∀ l, numEnd l → valL deep (putU n ++ l) = .ok (n, l)) (deep : Nat) (l : List UInt8) :
    ∀ (ns : List Nd) (ks kacc : List ByteArray) (acc : List Nd), ns ≠ [] → ks.length = ns.length → (kacc ++ ks).Nodup → (∀ k ∈ ks, ValidP k.toList) → (∀ n ∈ ns, ok n (deep + 1)) → objL deep (putL true ks ns true ++ 125 :: l) kacc acc = .ok (.mk 7 0 ⟨#[]⟩ (kacc ++ ks) (acc ++ ns), l)
  | [], ks, kacc, acc, h, _, _, _, _ => absurd rfl h
  | n :: ns, [], kacc, acc, _, hl, _, _, _ => by simp at hl
  | n :: ns, k :: ks, kacc, acc, _, hl, hd, hv, h => by
    have hk : k ∉ kacc := by
      rw [List.nodup_append] at hd
      exact fun hm => hd.2.2 k hm k (by simp) rfl
    have hl' : ks.length = ns.length := by simpa using hl
    have hd' : ((kacc ++ [k]) ++ ks).Nodup := by simpa using hd
    rw [putL_cons, if_pos rfl, List.headD_cons, List.tail_cons, List.append_assoc, objL_eq]
    have hq : ∀ z, blanksL (quoteU k.toList ++ z) = quoteU k.toList ++ z := fun z => blanks_ne (c := 34) _ (by decide)
    rw [hq, textL_quote _ (hv k (by simp))]
    simp only [List.singleton_append]
    rw [if_neg (any_not hk), blanks_ne _ (by decide), if_pos (by simp), List.tail_cons, blanks_put, hok n _ (h n (by simp)) _ (numEnd_rest true _ ns 125 (.inr rfl) l)]
    simp only [mk_toList]
    cases ns with
    | nil =>
      have : ks = [] := by simpa using hl'
      subst this
      rw [putL_nil, blanks_ne l (by decide)]
      simp
    | cons m ns =>
      rw [putL_more, blanks_ne _ (by decide), if_neg (by simp), if_pos (by simp), List.tail_cons, obj_of ok hok deep l (m :: ns) ks _ _ (by simp) hl' hd' (fun x hx => hv x (by simp [hx])) (fun x hx => h x (by simp at hx ⊢; exact .inr hx))]
      simp
/-- a right value's text is read as it -/
theorem val_put : ∀ (m : Nat) (n : Nd), n.count ≤ m → ∀ (deep : Nat) (l : List UInt8), rightD n deep = true → numEnd l → valL deep (putU n ++ l) = .ok (n, l)
  | 0, n, hc, _, _, _, _ => by have := n.count_pos; omega
  | m + 1, .mk k num t ks ns, hc, deep, l, hr, hl => by
    unfold rightD rightN bareF at hr
    simp only [Bool.and_eq_true, Bool.or_eq_true, beq_iff_eq, decide_eq_true_eq] at hr
    obtain ⟨⟨⟨⟨b1, b2⟩, b3⟩, b4⟩, hr⟩ := hr
    have hkids : ∀ (x : Nd), x ∈ ns → x.count ≤ m := fun x hx => by
      obtain ⟨i, hi⟩ := List.getElem?_of_mem hx
      have := Nd.counts_get ns i x hi
      simp only [Nd.count] at hc
      omega
    rcases hr with ((((rfl | rfl) | rfl) | ⟨rfl, h1, h2⟩) | ⟨rfl, hv⟩) | ⟨⟨⟨h67, hdp⟩, hk⟩, hkid⟩
    · have e1 : num = 0 := by omega
      have e2 : t = ⟨#[]⟩ := by rcases b2 with h | h; omega; exact h
      have e3 : ks = [] := List.eq_nil_of_length_eq_zero (by rcases b3 with h | h; omega; exact h)
      have e4 : ns = [] := List.eq_nil_of_length_eq_zero (by rcases b4 with (h | h) | h; omega; omega; exact h)
      subst e1 e2 e3 e4
      unfold putU
      rw [if_pos rfl, valL_else deep _ (by simp) (by simp) (by simp), if_pos (by simp)]
      rfl
    · have e1 : num = 0 := by omega
      have e2 : t = ⟨#[]⟩ := by rcases b2 with h | h; omega; exact h
      have e3 : ks = [] := List.eq_nil_of_length_eq_zero (by rcases b3 with h | h; omega; exact h)
      have e4 : ns = [] := List.eq_nil_of_length_eq_zero (by rcases b4 with (h | h) | h; omega; omega; exact h)
      subst e1 e2 e3 e4
      unfold putU
      rw [if_neg (by omega), if_pos rfl, valL_else deep _ (by simp) (by simp) (by simp), if_neg (by simp), if_pos (by simp)]
      rfl
    · have e1 : num = 0 := by omega
      have e2 : t = ⟨#[]⟩ := by rcases b2 with h | h; omega; exact h
      have e3 : ks = [] := List.eq_nil_of_length_eq_zero (by rcases b3 with h | h; omega; exact h)
      have e4 : ns = [] := List.eq_nil_of_length_eq_zero (by rcases b4 with (h | h) | h; omega; omega; exact h)
      subst e1 e2 e3 e4
      unfold putU
      rw [if_neg (by omega), if_neg (by omega), if_pos rfl, valL_else deep _ (by simp) (by simp) (by simp), if_neg (by simp), if_neg (by simp), if_pos (by simp)]
      rfl
    · have e2 : t = ⟨#[]⟩ := by rcases b2 with h | h; omega; exact h
      have e3 : ks = [] := List.eq_nil_of_length_eq_zero (by rcases b3 with h | h; omega; exact h)
      have e4 : ns = [] := List.eq_nil_of_length_eq_zero (by rcases b4 with (h | h) | h; omega; omega; exact h)
      subst e2 e3 e4
      unfold putU
      rw [if_neg (by omega), if_neg (by omega), if_neg (by omega), if_pos rfl]
      obtain ⟨c, t, e1, e2⟩ := itoa_head num l
      rw [valL_num deep _ c (by rw [e1]; rfl) e2, numL_itoa num l hl h1 h2]
    · have e1 : num = 0 := by omega
      have e3 : ks = [] := List.eq_nil_of_length_eq_zero (by rcases b3 with h | h; omega; exact h)
      have e4 : ns = [] := List.eq_nil_of_length_eq_zero (by rcases b4 with (h | h) | h; omega; omega; exact h)
      subst e1 e3 e4
      unfold putU
      rw [if_neg (by omega), if_neg (by omega), if_neg (by omega), if_neg (by omega), if_pos rfl, valL_str deep _ rfl, textL_quote _ ((validB_iff _).1 hv)]
      simp only [mk_toList]
    · have e1 : num = 0 := by omega
      have e2 : t = ⟨#[]⟩ := by rcases b2 with h | h; omega; exact h
      subst e1 e2
      have hkid' : ∀ x ∈ ns, rightD x ((deep + 1 : Nat) : Int) = true := by
        rw [rightL_all, List.all_eq_true] at hkid
        intro x hx
        have := hkid x hx
        unfold rightD
        simpa using this
      have hok : ∀ (n : Nd) (d : Nat), (n.count ≤ m ∧ rightD n (d : Int) = true) → ∀ l, numEnd l → valL d (putU n ++ l) = .ok (n, l) := fun n d h l hl => val_put m n h.1 d l h.2 hl
      rcases h67 with rfl | rfl
      · have e3 : ks = [] := List.eq_nil_of_length_eq_zero (by rcases b3 with h | h; omega; exact h)
        subst e3
        unfold putU
        rw [if_neg (by omega), if_neg (by omega), if_neg (by omega), if_neg (by omega), if_neg (by omega), if_pos rfl]
        show valL deep ((91 :: (putL false [] ns true ++ [93])) ++ l) = _
        rw [valL_arr deep _ rfl (by omega)]
        simp only [List.cons_append, List.tail_cons, List.append_assoc, List.nil_append]
        cases ns with
        | nil => rw [putL_nil, blanks_ne l (by decide)]; simp
        | cons n ns =>
          have hb : ∃ c t, putL false [] (n :: ns) true ++ 93 :: l = c :: t ∧ blankB c = false ∧ c ≠ 93 := by
            rw [putL_cons]; exact putU_head n _
          obtain ⟨c, t, e1, e2, e3⟩ := hb
          have hbl : blanksL (putL false [] (n :: ns) true ++ 93 :: l) = putL false [] (n :: ns) true ++ 93 :: l := by rw [e1, blanks_ne t e2]
          rw [hbl, if_neg (by rw [e1]; simpa using e3), arr_of _ hok deep l (n :: ns) [] [] (by simp) (fun x hx => ⟨hkids x hx, hkid' x hx⟩)]
          simp
      · rcases hk with hk | ⟨hlen, hkb⟩
        · omega
        unfold keysB at hkb
        have hkb := of_decide_eq_true hkb
        unfold putU
        rw [if_neg (by omega), if_neg (by omega), if_neg (by omega), if_neg (by omega), if_neg (by omega), if_neg (by omega)]
        show valL deep ((123 :: (putL true ks ns true ++ [125])) ++ l) = _
        rw [valL_obj deep _ rfl (by omega)]
        simp only [List.cons_append, List.tail_cons, List.append_assoc, List.nil_append]
        cases ns with
        | nil =>
          have : ks = [] := List.eq_nil_of_length_eq_zero (by simpa using hlen)
          subst this
          rw [putL_nil, blanks_ne l (by decide)]; simp
        | cons n ns =>
          have hb : ∃ t, putL true ks (n :: ns) true ++ 125 :: l = 34 :: t := by
            rw [putL_cons]; exact ⟨_, rfl⟩
          obtain ⟨t, e1⟩ := hb
          have hbl : blanksL (putL true ks (n :: ns) true ++ 125 :: l) = putL true ks (n :: ns) true ++ 125 :: l := by rw [e1, blanks_ne t (by decide)]
          rw [hbl, if_neg (by rw [e1]; simp), obj_of _ hok deep l (n :: ns) ks [] [] (by simp) hlen (by simpa using hkb.1) (fun k hk => (validB_iff _).1 (hkb.2 k hk)) (fun x hx => ⟨hkids x hx, hkid' x hx⟩)]
          simp
theorem parse_put (n : Nd) (h : rightD n 0 = true) (hl : (putU n).length ≤ 65536) : parseL (putU n) = .ok n := by
  have h1 := val_put n.count n (Nat.le_refl _) 0 [] (by simpa using h) numEnd_nil
  have h2 := blanks_put n []
  rw [List.append_nil] at h1 h2
  unfold parseL
  rw [if_neg (by omega), h2, h1]
  rfl
end Go.Proofs.Ytnhoecmcbikcnaa
/-! Plain laws of reading JSON: what is read is right, and its text is no longer than what was read. -/
namespace Go.Proofs.Ytnhoecmcbikcnaa
open Go.RowKit Go.PlainAid
set_option linter.unusedVariables false
set_option linter.unusedSimpArgs false
theorem ValidP.app {a b : List UInt8} (ha : ValidP a) (hb : ValidP b) : ValidP (a ++ b) := by
  obtain ⟨rs, h1, rfl⟩ := ha
  obtain ⟨qs, h2, rfl⟩ := hb
  exact ⟨rs ++ qs, fun x hx => by rcases List.mem_append.1 hx with h | h; exact h1 x h; exact h2 x h, by simp⟩
theorem ValidP.one {p : Int} (h : putB p ≠ []) : ValidP (putB p) := by
  have := ValidP.cons h ValidP.nil
  simpa using this
theorem ValidP.ascii (c : UInt8) (h : c.toNat < 128) : ValidP [c] := by
  rw [← putB_ascii c h]
  exact ValidP.one (by rw [putB_ascii c h]; simp)
theorem flat_le4 (p : Int) (hp : putB p ≠ []) : ((putB p).flatMap escU).length ≤ 6 := by
  by_cases h : p < 128
  · obtain ⟨c, e, _⟩ := low_one p hp h
    rw [e]
    have := escU_le c
    simpa using this
  · rw [high_flat _ (high_all p hp (by omega))]
    have := putB_len p
    omega
theorem pointL_ok {l : List UInt8} {n : Int} {r : List UInt8} (h : pointL l = some (n, r)) : putB n ≠ [] ∧ r.length + 4 ≤ l.length := by
  unfold pointL at h
  split at h
  · cases h
  · rename_i n1 r1 h1
    have k1 := unitL_le _ _ _ _ _ h1
    have b1 := unitL_bd _ _ _ _ _ (by omega) h1
    have p4 : (16 : Int) ^ 4 = 65536 := by decide
    rw [p4] at b1
    split at h
    · simp at h; obtain ⟨rfl, rfl⟩ := h
      exact ⟨by rw [Ne, putB_nil]; omega, by omega⟩
    · split at h
      · cases h
      · split at h
        · split at h
          · cases h
          · rename_i n2 r2 h2
            have k2 := unitL_le _ _ _ _ _ h2
            have hd := List.length_drop (l := r1) (i := 2)
            split at h
            · cases h
            · simp at h
              obtain ⟨rfl, rfl⟩ := h
              exact ⟨by rw [Ne, putB_nil]; omega, by omega⟩
        · cases h
theorem escL_ok {l b r : List UInt8} (h : escL l = some (b, r)) : ValidP b ∧ (b.flatMap escU).length + r.length ≤ l.length + 1 := by
  unfold escL at h
  cases l with
  | nil => simp at h
  | cons c l =>
    simp only at h
    split at h
    · rename_i hc
      cases h
      have : c.toNat < 128 := by rcases hc with rfl | rfl | rfl <;> decide
      refine ⟨ValidP.ascii c this, ?_⟩
      have e : (escU c).length ≤ 2 := by rcases hc with rfl | rfl | rfl <;> decide
      simp; omega
    split at h
    · cases h; exact ⟨ValidP.ascii _ (by decide), by simp [escU]; omega⟩
    split at h
    · cases h; exact ⟨ValidP.ascii _ (by decide), by simp [escU]; omega⟩
    split at h
    · cases h; exact ⟨ValidP.ascii _ (by decide), by simp [escU]; omega⟩
    split at h
    · cases h; exact ⟨ValidP.ascii _ (by decide), by simp [escU]; omega⟩
    split at h
    · cases h; exact ⟨ValidP.ascii _ (by decide), by simp [escU]; omega⟩
    split at h
    · split at h
      · cases h
      · rename_i n r2 h2
        cases h
        have := pointL_ok h2
        have h6 := flat_le4 n this.1
        exact ⟨ValidP.one this.1, by simp only [List.length_cons]; omega⟩
    · cases h
theorem textT_ok : ∀ (k : Nat) (l acc b r : List UInt8), l.length ≤ k → textT l acc = some (b, r) → ∃ u, b = acc ++ u ∧ ValidP u ∧ (u.flatMap escU).length + r.length + 1 ≤ l.length
  | 0, l, acc, b, r, hk, h => by
    have : l = [] := List.eq_nil_of_length_eq_zero (by omega)
    subst this
    rw [textT_nil] at h; cases h
  | k + 1, [], acc, b, r, hk, h => by rw [textT_nil] at h; cases h
  | k + 1, c :: l, acc, b, r, hk, h => by
    rw [textT_cons] at h
    simp only [List.length_cons] at hk
    split at h
    · cases h
    rename_i h32
    split at h
    · cases h; exact ⟨[], by simp, ValidP.nil, by simp⟩
    rename_i h34
    split at h
    · split at h
      · cases h
      · rename_i b2 r2 h2
        have k2 := escL_le h2
        have o2 := escL_ok h2
        obtain ⟨u, e, hv, hlen⟩ := textT_ok k _ _ _ _ (by omega) h
        refine ⟨b2 ++ u, by rw [e, List.append_assoc], o2.1.app hv, ?_⟩
        simp only [List.flatMap_append, List.length_append, List.length_cons]
        omega
    rename_i h92
    · split at h
      · cases h
      · rename_i x m h2
        have k2 := dec_le _ _ _ h2
        obtain ⟨d1, d2, d3⟩ := decL_some _ _ _ h2
        have hd := List.length_drop (l := c :: l) (i := m)
        simp only [List.length_cons] at hd k2
        obtain ⟨u, e, hv, hlen⟩ := textT_ok k _ _ _ _ (by omega) h
        have ht : (c :: l).take m = putB x := by rw [d3, d2]; simp
        rw [ht] at e
        refine ⟨putB x ++ u, by rw [e, List.append_assoc], hv.cons d1, ?_⟩
        have hf : ((putB x).flatMap escU).length = m := by
          by_cases hx : x < 128
          · obtain ⟨c', e1, e2⟩ := low_one x d1 hx
            have ec : c' = c := by rw [e1] at d3; simp at d3; exact d3.1.symm
            subst ec
            rw [d2, e1]
            have : escU c' = [c'] := by
              unfold escU
              rw [if_neg (by rintro (e | e); exact h34 e; exact h92 e), if_pos (by rw [u8_lt] at h32; simpa using h32)]
            simp [this]
          · rw [high_flat _ (high_all x d1 (by omega)), d2]
        simp only [List.flatMap_append, List.length_append, List.length_cons]
        omega
theorem textL_ok {l b r : List UInt8} (h : textL l = some (b, r)) : ValidP b ∧ (quoteU b).length + r.length ≤ l.length := by
  unfold textL at h
  split at h
  · rename_i hh
    obtain ⟨u, e, hv, hlen⟩ := textT_ok _ _ _ _ _ (Nat.le_refl _) h
    rw [List.nil_append] at e
    subst e
    have ht := tail_lt hh
    refine ⟨hv, ?_⟩
    unfold quoteU
    simp only [List.length_append, List.length_cons, List.length_nil]
    omega
  · cases h
/-! numbers -/
theorem valD_dig (ds : List UInt8) (h : ∀ c ∈ ds, digB c = true) (hne : ds ≠ []) : 0 ≤ valD 0 ds ∧ (Lib.decDigits (valD 0 ds).toNat).length ≤ ds.length := by
  obtain ⟨k, hk⟩ : ∃ k, ds.length = k := ⟨_, rfl⟩
  induction k generalizing ds with
  | zero => exact absurd (List.eq_nil_of_length_eq_zero hk) hne
  | succ k ih =>
    obtain ⟨es, c, rfl⟩ : ∃ es c, ds = es ++ [c] := ⟨ds.dropLast, ds.getLast hne, (List.dropLast_concat_getLast hne).symm⟩
    have hc := h c (by simp)
    unfold digB at hc
    have hc := of_decide_eq_true hc
    rw [valD_snoc2]
    by_cases he : es = []
    · subst he
      have : valD 0 [] = 0 := rfl
      rw [this]
      refine ⟨by omega, ?_⟩
      rw [Lib.decDigits_one (by omega)]
      simp
    · have h1 := ih es (fun x hx => h x (by simp [hx])) he (by simp at hk; exact hk)
      refine ⟨by omega, ?_⟩
      simp only [List.length_append, List.length_cons, List.length_nil]
      generalize valD 0 es = v at h1 ⊢
      by_cases h9 : (v * 10 + ((c.toNat : Int) - 48)).toNat < 10
      · rw [Lib.decDigits_one h9]; simp
      · rw [Lib.decDigits, dif_neg h9, List.length_append]
        have e : (v * 10 + ((c.toNat : Int) - 48)).toNat / 10 = v.toNat := by omega
        rw [e]
        simp only [List.length_cons, List.length_nil]; omega
theorem take_dig (l : List UInt8) : ∀ c ∈ l.takeWhile digB, digB c = true := by
  induction l with
  | nil => intro c hc; simp at hc
  | cons a l ih =>
    intro c hc
    rw [List.takeWhile_cons] at hc
    split at hc
    · rename_i ha
      rcases List.mem_cons.1 hc with rfl | hc
      · exact ha
      · exact ih c hc
    · simp at hc
theorem numTail_ok {neg : Bool} {l : List UInt8} {n : Int} {r : List UInt8} (h : numTail neg l = some (n, r)) : -9007199254740991 ≤ n ∧ n ≤ 9007199254740991 ∧ (if neg = true then n < 0 else 0 ≤ n) ∧ (Lib.decDigits n.natAbs).length + r.length ≤ l.length := by
  unfold numTail at h
  split at h
  · cases h
  · rename_i hn
    simp only [Option.some.injEq, Prod.mk.injEq] at h
    obtain ⟨rfl, rfl⟩ := h
    have h0 : l.takeWhile digB ≠ [] := fun e => hn (.inl e)
    have h1 : l.takeWhile digB ++ l.dropWhile digB = l := List.takeWhile_append_dropWhile
    have h2 := congrArg List.length h1
    rw [List.length_append] at h2
    have h3 := valD_dig _ (take_dig l) h0
    have h4 : ¬ 9007199254740991 < valD 0 (l.takeWhile digB) := fun e => hn (.inr (.inr (.inl e)))
    have h5 : ¬ (neg = true ∧ valD 0 (l.takeWhile digB) = 0) := fun e => hn (.inr (.inr (.inr (.inl e))))
    generalize valD 0 (l.takeWhile digB) = v at h3 h4 h5 ⊢
    cases neg with
    | true =>
      simp only [if_true, true_and] at h5 ⊢
      have : (-v).natAbs = v.toNat := by omega
      rw [this]
      omega
    | false =>
      simp only [Bool.false_eq_true, if_false]
      have : v.natAbs = v.toNat := by omega
      rw [this]
      omega
theorem numL_ok {l : List UInt8} {n : Int} {r : List UInt8} (h : numL l = some (n, r)) : -9007199254740991 ≤ n ∧ n ≤ 9007199254740991 ∧ (Lib.itoa n).length + r.length ≤ l.length := by
  unfold numL at h
  split at h
  · rename_i hh
    have := numTail_ok h
    have ht := tail_lt hh
    simp only [if_true] at this
    unfold Lib.itoa
    rw [if_pos this.2.2.1]
    simp only [List.length_cons]
    omega
  · have := numTail_ok h
    simp only [Bool.false_eq_true, if_false] at this
    unfold Lib.itoa
    rw [if_neg (by omega)]
    have e : n.toNat = n.natAbs := by omega
    rw [e]
    omega
/-! values -/
theorem right_nd0 (k : Int) (h : k = 1 ∨ k = 2 ∨ k = 3) (deep : Int) : rightD (nd0 k) deep = true := by
  unfold rightD nd0 rightN bareF
  rcases h with rfl | rfl | rfl <;> simp
theorem right_num (n : Int) (h1 : -9007199254740991 ≤ n) (h2 : n ≤ 9007199254740991) (deep : Int) : rightD (.mk 4 n ⟨#[]⟩ [] []) deep = true := by
  unfold rightD rightN bareF
  simp [h1, h2]
theorem right_str (t : ByteArray) (h : ValidP t.toList) (deep : Int) : rightD (.mk 5 0 t [] []) deep = true := by
  unfold rightD rightN bareF
  have := (validB_iff _).2 h
  simp [this]
theorem right_arr (ns : List Nd) (deep : Int) (hd : deep < 24) (h : ∀ n ∈ ns, rightD n (deep + 1) = true) : rightD (.mk 6 0 ⟨#[]⟩ [] ns) deep = true := by
  unfold rightD rightN bareF
  have : rightL 9007199254740991 24 ns (deep + 1) = true := by
    rw [rightL_all, List.all_eq_true]
    exact h
  simp [this, hd]
theorem right_obj (ks : List ByteArray) (ns : List Nd) (deep : Int) (hd : deep < 24) (hl : ks.length = ns.length) (hn : ks.Nodup) (hv : ∀ k ∈ ks, ValidP k.toList) (h : ∀ n ∈ ns, rightD n (deep + 1) = true) : rightD (.mk 7 0 ⟨#[]⟩ ks ns) deep = true := by
  unfold rightD rightN bareF
  have : rightL 9007199254740991 24 ns (deep + 1) = true := by
    rw [rightL_all, List.all_eq_true]
    exact h
  have hk : keysB ks = true := by
    unfold keysB
    exact decide_eq_true ⟨hn, fun k hk => (validB_iff _).2 (hv k hk)⟩
  simp [this, hd, hk, hl]
theorem putU_nd0 (k : Int) (h : k = 1 ∨ k = 2 ∨ k = 3) : (putU (nd0 k)).length = if k = 2 then 5 else 4 := by
  unfold nd0 putU
  rcases h with rfl | rfl | rfl <;> rfl
theorem putL_false (ks ks' : List ByteArray) (ns : List Nd) (first : Bool) : putL false ks ns first = putL false ks' ns first := by
  induction ns generalizing ks ks' first with
  | nil => unfold putL; rfl
  | cons n ns ih =>
    unfold putL
    rw [ih ks.tail ks'.tail]
    rfl
theorem putL_len (obj : Bool) (ks : List ByteArray) (n : Nd) (ns : List Nd) : (putL obj ks (n :: ns) true).length = (if obj = true then (quoteU (ks.headD ⟨#[]⟩).toList).length + 1 else 0) + (putU n).length + (if ns = [] then 0 else 1 + (putL obj ks.tail ns true).length) := by
  have h := putL_cons obj ks n ns []
  simp only [List.append_nil] at h
  rw [h]
  cases ns with
  | nil =>
    have := putL_nil obj ks.tail false []
    rw [List.append_nil] at this
    rw [this]
    cases obj
    · simp
    · simp; omega
  | cons m ns =>
    have := putL_more obj ks.tail m ns []
    simp only [List.append_nil] at this
    rw [this]
    cases obj <;> simp <;> omega
theorem val_ok : ∀ (N : Nat),
    (∀ deep l n r, 2 * l.length ≤ N → deep ≤ 24 → valL deep l = .ok (n, r) → rightD n (deep : Int) = true ∧ (putU n).length + r.length ≤ l.length) ∧
    (∀ deep l ns n r, 2 * l.length + 1 ≤ N → deep < 24 → arrL deep l ns = .ok (n, r) → ∃ ms, ms ≠ [] ∧ n = .mk 6 0 ⟨#[]⟩ [] (ns ++ ms) ∧ (∀ x ∈ ms, rightD x ((deep : Int) + 1) = true) ∧ (putL false [] ms true).length + 1 + r.length ≤ l.length) ∧
    (∀ deep l ks ns n r, 2 * l.length + 1 ≤ N → deep < 24 → objL deep l ks ns = .ok (n, r) → ∃ kk ms, ms ≠ [] ∧ kk.length = ms.length ∧ n = .mk 7 0 ⟨#[]⟩ (ks ++ kk) (ns ++ ms) ∧ (ks.Nodup → (ks ++ kk).Nodup) ∧ (∀ k ∈ kk, ValidP k.toList) ∧ (∀ x ∈ ms, rightD x ((deep : Int) + 1) = true) ∧ (putL true kk ms true).length + 1 + r.length ≤ l.length) := by
  intro N
  induction N using Nat.strongRecOn with
  | _ N ih =>
    refine ⟨?_, ?_, ?_⟩
    · intro deep l n r hN hd h
      by_cases h91 : l.head? = some 91
      · by_cases h24 : 24 ≤ deep
        · rw [valL_deep deep l (.inl h91) h24] at h; cases h
        rw [valL_arr deep l h91 h24] at h
        have ht := tail_lt h91
        have hb := blanksL_le l.tail
        split at h
        · rename_i h93
          cases h
          have := tail_lt h93
          refine ⟨right_arr [] _ (by omega) (by simp), ?_⟩
          have e : (putU (.mk 6 0 ⟨#[]⟩ [] [])).length = 2 := by unfold putU putL; rfl
          omega
        · obtain ⟨ms, m1, rfl, m3, m4⟩ := (ih (2 * (blanksL l.tail).length + 1) (by omega)).2.1 deep _ _ n r (Nat.le_refl _) (by omega) h
          rw [List.nil_append]
          refine ⟨right_arr ms _ (by omega) m3, ?_⟩
          have e : (putU (.mk 6 0 ⟨#[]⟩ [] ms)).length = 2 + (putL false [] ms true).length := by
            unfold putU
            rw [if_neg (by omega), if_neg (by omega), if_neg (by omega), if_neg (by omega), if_neg (by omega), if_pos rfl]
            show ([91] ++ putL false [] ms true ++ [93]).length = _
            simp; omega
          omega
      by_cases h123 : l.head? = some 123
      · by_cases h24 : 24 ≤ deep
        · rw [valL_deep deep l (.inr h123) h24] at h; cases h
        rw [valL_obj deep l h123 h24] at h
        have ht := tail_lt h123
        have hb := blanksL_le l.tail
        split at h
        · rename_i h93
          cases h
          have := tail_lt h93
          refine ⟨right_obj [] [] _ (by omega) rfl (by simp) (by simp) (by simp), ?_⟩
          have e : (putU (.mk 7 0 ⟨#[]⟩ [] [])).length = 2 := by unfold putU putL; rfl
          omega
        · obtain ⟨kk, ms, m1, m2, rfl, m3, m4, m5, m6⟩ := (ih (2 * (blanksL l.tail).length + 1) (by omega)).2.2 deep _ _ _ n r (Nat.le_refl _) (by omega) h
          rw [List.nil_append, List.nil_append]
          refine ⟨right_obj kk ms _ (by omega) m2 (by simpa using m3) m4 m5, ?_⟩
          have e : (putU (.mk 7 0 ⟨#[]⟩ kk ms)).length = 2 + (putL true kk ms true).length := by
            unfold putU
            rw [if_neg (by omega), if_neg (by omega), if_neg (by omega), if_neg (by omega), if_neg (by omega), if_neg (by omega)]
            show ([123] ++ putL true kk ms true ++ [125]).length = _
            simp; omega
          omega
      by_cases h34 : l.head? = some 34
      · rw [valL_str deep l h34] at h
        cases ht : textL l with
        | none => rw [ht] at h; cases h
        | some p =>
          obtain ⟨t, r'⟩ := p
          rw [ht] at h
          simp only [Except.ok.injEq, Prod.mk.injEq] at h
          obtain ⟨rfl, rfl⟩ := h
          have := textL_ok ht
          have e : (⟨t.toArray⟩ : ByteArray).toList = t := by rw [ByteArray.toList_eq]
          refine ⟨right_str _ (by rw [e]; exact this.1) _, ?_⟩
          have e2 : putU (.mk 5 0 ⟨t.toArray⟩ [] []) = quoteU t := by
            unfold putU
            rw [if_neg (by omega), if_neg (by omega), if_neg (by omega), if_neg (by omega), if_pos rfl, e]
          rw [e2]; exact this.2
      rw [valL_else deep l h91 h123 h34] at h
      split at h
      · rename_i ht
        cases h
        have := putU_nd0 1 (by omega)
        have h5 := congrArg List.length ht
        simp only [List.length_take, List.length_cons, List.length_nil] at h5
        exact ⟨right_nd0 1 (by omega) _, by rw [this, List.length_drop]; simp; omega⟩
      split at h
      · rename_i ht
        cases h
        have := putU_nd0 2 (by omega)
        have h5 := congrArg List.length ht
        simp only [List.length_take, List.length_cons, List.length_nil] at h5
        exact ⟨right_nd0 2 (by omega) _, by rw [this, List.length_drop]; simp; omega⟩
      split at h
      · rename_i ht
        cases h
        have := putU_nd0 3 (by omega)
        have h5 := congrArg List.length ht
        simp only [List.length_take, List.length_cons, List.length_nil] at h5
        exact ⟨right_nd0 3 (by omega) _, by rw [this, List.length_drop]; simp; omega⟩
      cases ht : numL l with
      | none => rw [ht] at h; cases h
      | some p =>
        obtain ⟨m, r'⟩ := p
        rw [ht] at h
        simp only [Except.ok.injEq, Prod.mk.injEq] at h
        obtain ⟨rfl, rfl⟩ := h
        have := numL_ok ht
        refine ⟨right_num m this.1 this.2.1 _, ?_⟩
        have e2 : putU (.mk 4 m ⟨#[]⟩ [] []) = Lib.itoa m := by
          unfold putU
          rw [if_neg (by omega), if_neg (by omega), if_neg (by omega), if_pos rfl]
        rw [e2]; exact this.2.2
    · intro deep l ns n r hN hd h
      rw [arrL_eq] at h
      have hb := blanksL_le l
      cases hv : valL (deep + 1) (blanksL l) with
      | error e => rw [hv] at h; cases h
      | ok p =>
        obtain ⟨x, r1⟩ := p
        rw [hv] at h
        simp only at h
        obtain ⟨g1, g2⟩ := (ih (2 * (blanksL l).length) (by omega)).1 (deep + 1) _ x r1 (Nat.le_refl _) (by omega) hv
        have hr1 := (valL_le hv).2
        have hb1 := blanksL_le r1
        split at h
        · rename_i h93
          cases h
          have := tail_lt h93
          refine ⟨[x], by simp, rfl, by simpa using g1, ?_⟩
          rw [putL_len]
          simp; omega
        · split at h
          · rename_i h44
            have ht := tail_lt h44
            obtain ⟨ms, m1, m2, m3, m4⟩ := (ih (2 * (blanksL r1).tail.length + 1) (by omega)).2.1 deep _ _ n r (Nat.le_refl _) hd h
            refine ⟨x :: ms, by simp, by rw [m2]; simp, ?_, ?_⟩
            · intro y hy
              rcases List.mem_cons.1 hy with rfl | hy
              · simpa using g1
              · exact m3 y hy
            · rw [putL_len, if_neg (by simp), if_neg m1]
              simp only [List.tail_nil]
              omega
          · cases h
    · intro deep l ks ns n r hN hd h
      rw [objL_eq] at h
      have hb := blanksL_le l
      cases ht : textL (blanksL l) with
      | none => rw [ht] at h; cases h
      | some p =>
        obtain ⟨k, r0⟩ := p
        rw [ht] at h
        simp only at h
        have o := textL_ok ht
        have hr0 := (textL_le ht).2
        have hb0 := blanksL_le r0
        split at h
        · cases h
        rename_i hany
        split at h
        · rename_i h58
          have h58 := tail_lt h58
          have hb2 := blanksL_le (blanksL r0).tail
          cases hv : valL (deep + 1) (blanksL (blanksL r0).tail) with
          | error e => rw [hv] at h; cases h
          | ok p =>
            obtain ⟨x, r1⟩ := p
            rw [hv] at h
            simp only at h
            obtain ⟨g1, g2⟩ := (ih (2 * (blanksL (blanksL r0).tail).length) (by omega)).1 (deep + 1) _ x r1 (Nat.le_refl _) (by omega) hv
            have hr1 := (valL_le hv).2
            have hb1 := blanksL_le r1
            have ek : (⟨k.toArray⟩ : ByteArray).toList = k := by rw [ByteArray.toList_eq]
            have hnew : (⟨k.toArray⟩ : ByteArray) ∉ ks := fun hm => hany (by
              rw [List.any_eq_true]
              exact ⟨_, hm, by rw [ek]; simp⟩)
            have hnd : ks.Nodup → (ks ++ [(⟨k.toArray⟩ : ByteArray)]).Nodup := fun hn => by
              rw [List.nodup_append]
              exact ⟨hn, by simp, fun a ha b hb e => by simp at hb; subst hb; subst e; exact hnew ha⟩
            split at h
            · rename_i h93
              cases h
              have := tail_lt h93
              refine ⟨[⟨k.toArray⟩], [x], by simp, rfl, rfl, hnd, by intro y hy; simp at hy; subst hy; rw [ek]; exact o.1, by simpa using g1, ?_⟩
              rw [putL_len]
              simp only [List.headD_cons, ek, if_true]
              omega
            · split at h
              · rename_i h44
                have ht := tail_lt h44
                obtain ⟨kk, ms, m1, m2, m3, m4, m5, m6, m7⟩ := (ih (2 * (blanksL r1).tail.length + 1) (by omega)).2.2 deep _ _ _ n r (Nat.le_refl _) hd h
                refine ⟨⟨k.toArray⟩ :: kk, x :: ms, by simp, by simp [m2], by rw [m3]; simp, ?_, ?_, ?_, ?_⟩
                · intro hn
                  have := m4 (hnd hn)
                  simpa using this
                · intro y hy
                  rcases List.mem_cons.1 hy with rfl | hy
                  · rw [ek]; exact o.1
                  · exact m5 y hy
                · intro y hy
                  rcases List.mem_cons.1 hy with rfl | hy
                  · simpa using g1
                  · exact m6 y hy
                · rw [putL_len, if_pos rfl, if_neg m1]
                  simp only [List.headD_cons, ek, List.tail_cons]
                  omega
              · cases h
        · cases h
/-- what was read is right, its text is no longer, and is read as the same -/
theorem parse_back {l : List UInt8} {n : Nd} (h : parseL l = .ok n) : rightD n 0 = true ∧ (putU n).length ≤ l.length ∧ l.length ≤ 65536 ∧ parseL (putU n) = .ok n := by
  unfold parseL at h
  split at h
  · cases h
  rename_i hl
  cases hv : valL 0 (blanksL l) with
  | error e => rw [hv] at h; cases h
  | ok p =>
    obtain ⟨m, r⟩ := p
    rw [hv] at h
    simp only at h
    split at h
    · cases h
      obtain ⟨h1, h2⟩ := (val_ok _).1 0 _ n r (Nat.le_refl _) (by omega) hv
      have hb := blanksL_le l
      have h1 : rightD n 0 = true := by simpa using h1
      exact ⟨h1, by omega, by omega, parse_put n h1 (by omega)⟩
    · cases h
end Go.Proofs.Ytnhoecmcbikcnaa
/-! What reading a value keeps. -/
namespace Go.Proofs.Ytnhoecmcbikcnaa
open Go.RowKit Go.PlainAid
set_option linter.unusedVariables false
set_option linter.unusedSimpArgs false
/-- a value's parse under way: its own three variables -/
structure VInv (w0 : World) (rb : Nat) (deep : Int) (w : World) : Prop where
  rbox : Blk w w0.heap.size 53 #[.pointer (some ⟨rb, 0, none⟩)]
  dbox : Blk w (w0.heap.size + 1) 3 #[.int .i64 deep]
  res : Blk w (w0.heap.size + 1 + 1) 27 #[.int .i64 0, .int .i64 0, .string ⟨#[]⟩, .slice none 0 0, .slice none 0 0]
  grow : w0.grownBy w (some rb)
  size : w0.heap.size + 3 ≤ w.heap.size
  lt : rb < w0.heap.size
theorem VInv.start (w : World) (rb : Nat) (deep : Int) (h : rb < w.heap.size) : VInv w rb deep (((w.alloc (.cells #[.pointer (some ⟨rb, 0, none⟩)] 53)).alloc (.cells #[.int .i64 deep] 3)).alloc (.cells #[.int .i64 0, .int .i64 0, .string ⟨#[]⟩, .slice none 0 0, .slice none 0 0] 27)) := by
  refine ⟨((Blk.new w _ _).alloc _).alloc _, ?_, ?_, grown_alloc (grown_alloc (grown_alloc (grown_refl _ _) _) _) _, by simp, h⟩
  · have := (Blk.new (w.alloc (.cells #[.pointer (some ⟨rb, 0, none⟩)] 53)) 3 #[.int .i64 deep]).alloc (.cells #[.int .i64 0, .int .i64 0, .string ⟨#[]⟩, .slice none 0 0, .slice none 0 0] 27)
    simpa using this
  · have := Blk.new ((w.alloc (.cells #[.pointer (some ⟨rb, 0, none⟩)] 53)).alloc (.cells #[.int .i64 deep] 3)) 27 #[.int .i64 0, .int .i64 0, .string ⟨#[]⟩, .slice none 0 0, .slice none 0 0]
    simpa using this
theorem VInv.next {w0 : World} {rb : Nat} {deep : Int} {w w' : World} (h : VInv w0 rb deep w) (g : w.grownBy w' (some rb)) : VInv w0 rb deep w' := by
  have hl := h.lt
  exact ⟨h.rbox.grown g (by intro e; injection e with e; omega), h.dbox.grown g (by intro e; injection e with e; omega), h.res.grown g (by intro e; injection e with e; omega), h.grow.trans g, Nat.le_trans h.size g.size, hl⟩
theorem VInv.drewN {w0 : World} {rb : Nat} {deep : Int} {w : World} (h : VInv w0 rb deep w) (n : Nat) : VInv w0 rb deep (w.drewN n) := h.next (grown_drewN (grown_refl _ _) n)
/-- the result laid into its cells -/
theorem VInv.laid {w0 : World} {rb : Nat} {deep : Int} {w : World} (h : VInv w0 rb deep w) (a b c d e : Value) :
    Blk (((((w.setCell ⟨w0.heap.size + 1 + 1, 0, none⟩ a).setCell ⟨w0.heap.size + 1 + 1, 1, none⟩ b).setCell ⟨w0.heap.size + 1 + 1, 2, none⟩ c).setCell ⟨w0.heap.size + 1 + 1, 3, none⟩ d).setCell ⟨w0.heap.size + 1 + 1, 4, none⟩ e) (w0.heap.size + 1 + 1) 27 #[a, b, c, d, e] ∧
    w0.grownBy (((((w.setCell ⟨w0.heap.size + 1 + 1, 0, none⟩ a).setCell ⟨w0.heap.size + 1 + 1, 1, none⟩ b).setCell ⟨w0.heap.size + 1 + 1, 2, none⟩ c).setCell ⟨w0.heap.size + 1 + 1, 3, none⟩ d).setCell ⟨w0.heap.size + 1 + 1, 4, none⟩ e) (some rb) ∧
    (((((w.setCell ⟨w0.heap.size + 1 + 1, 0, none⟩ a).setCell ⟨w0.heap.size + 1 + 1, 1, none⟩ b).setCell ⟨w0.heap.size + 1 + 1, 2, none⟩ c).setCell ⟨w0.heap.size + 1 + 1, 3, none⟩ d).setCell ⟨w0.heap.size + 1 + 1, 4, none⟩ e).heap.size = w.heap.size ∧
    ∀ g, g ≠ w0.heap.size + 1 + 1 → (((((w.setCell ⟨w0.heap.size + 1 + 1, 0, none⟩ a).setCell ⟨w0.heap.size + 1 + 1, 1, none⟩ b).setCell ⟨w0.heap.size + 1 + 1, 2, none⟩ c).setCell ⟨w0.heap.size + 1 + 1, 3, none⟩ d).setCell ⟨w0.heap.size + 1 + 1, 4, none⟩ e).heap[g]? = w.heap[g]? := by
  refine ⟨(((((h.res.set_ 0 a).set_ 1 b).set_ 2 c).set_ 3 d).set_ 4 e), grown_new (grown_new (grown_new (grown_new (grown_new h.grow (by omega) 0 _) (by omega) 1 _) (by omega) 2 _) (by omega) 3 _) (by omega) 4 _, by simp, fun g hg => ?_⟩
  rw [Below.heap_setCell _ _ _ _ hg, Below.heap_setCell _ _ _ _ hg, Below.heap_setCell _ _ _ _ hg, Below.heap_setCell _ _ _ _ hg, Below.heap_setCell _ _ _ _ hg]
theorem VInv.frozen {w0 : World} {rb : Nat} {deep : Int} {w : World} (h : VInv w0 rb deep w) (i : Nat) : w.frozen? ⟨w0.heap.size + 1 + 1, i, none⟩ = false := h.res.frozen i
theorem nd_plain {w : World} {S : Nat → Prop} (k n : Int) (t : ByteArray) (hk : I64 k) (hn : I64 n) (ht : t.size ≤ 1000000000) : NdIn w S (.mk k n t [] []) [.int .i64 k, .int .i64 n, .string t, .slice none 0 0, .slice none 0 0] := by
  unfold NdIn
  exact ⟨none, 0, none, 0, [], rfl, RS.none_, RS.none_, NdsIn.nil, hk, hn, by simp only [maxLen]; omega, by simp, by simp, by simp⟩
theorem esc_one (c : UInt8) : 1 ≤ (escU c).length := by
  unfold escU
  repeat' split
  all_goals simp
theorem flat_ge (t : List UInt8) : t.length ≤ (t.flatMap escU).length := by
  induction t with
  | nil => simp
  | cons c t ih =>
    have := esc_one c
    simp only [List.flatMap_cons, List.length_append, List.length_cons]; omega
theorem quote_ge (t : List UInt8) : t.length + 2 ≤ (quoteU t).length := by
  have := flat_ge t
  unfold quoteU
  simp only [List.length_append, List.length_cons, List.length_nil]; omega
theorem ValEnd.bad {rb : Nat} {s : ByteArray} {c : Int} {r : Except Int (Nd × List UInt8)} {w w1 : World} {e : Ending} {w' : World} (hr : r = .error c) (h : Failed rb s c w1 e w') (g : w.grownBy w1 (some rb)) : ValEnd rb s r w e w' := by
  subst hr; exact h.from g
theorem ValEnd.good {rb : Nat} {s : ByteArray} {r : Except Int (Nd × List UInt8)} {n : Nd} {l : List UInt8} {w : World} {e : Ending} {w' : World} (c0 c1 : Int) (c2 : ByteArray) (c3 : Option Addr) (c4 c5 : Nat) (c6 : Option Addr) (c7 c8 : Nat) (hr : r = .ok (n, l))
    (he : e = .returned (.agg #[.int .i64 c0, .int .i64 c1, .string c2, .slice c3 c4 c5, .slice c6 c7 c8])) (hn : NdIn w' (Since w w') n [.int .i64 c0, .int .i64 c1, .string c2, .slice c3 c4 c5, .slice c6 c7 c8]) (ht : RdTo rb s l w w') : ValEnd rb s r w e w' := by
  subst hr; exact ⟨c0, c1, c2, c3, c4, c5, c6, c7, c8, he, hn, ht⟩
theorem fst_ne {s : ByteArray} {k n : Nat} {u c : UInt8} {t r : List UInt8} (hd : s.toList.drop k = u :: r) (h : u ≠ c) : (s.toList.drop k).take n ≠ c :: t := by
  intro e
  have := take_head e
  rw [hd] at this
  simp at this
  exact h this
theorem lit_toList (l : List UInt8) : (⟨l.toArray⟩ : ByteArray).toList = l := by rw [ByteArray.toList_eq]
end Go.Proofs.Ytnhoecmcbikcnaa
