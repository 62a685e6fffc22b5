/- Texts of one seat, one behind the other: Rp12, Jreads, Rfind. No condition. -/
import Derived.Test.YtnhoecmcbikcnaaQ8
import Derived.Deep.DeepCutAuto
/-! The reference's Parse. -/
namespace Go.Proofs.Ytnhoecmcbikcnaa
open Go.RowKit Go.PlainAid
set_option linter.unusedVariables false
set_option linter.unusedSimpArgs false
theorem grown_low {w0 w' : World} {rb n : Nat} (hg : w0.grownBy w' (some rb)) (hr : n ≤ rb) (hn : n ≤ w0.heap.size) : Below n w0 w' := ⟨hg.os, hg.tape, hg.output, hg.size, fun i hi => hg.block i (by omega) (fun e => by injection e with e; omega)⟩
theorem parse_rest {s : ByteArray} {n : Nd} {l : List UInt8} (hl : s.toList.length ≤ 65536) (hv : valL 0 (blanksL s.toList) = .ok (n, l)) : parseL s.toList = if blanksL l = [] then .ok n else .error 3 := by
  unfold parseL
  rw [if_neg (by omega), hv]
theorem parse_bad {s : ByteArray} {c : Int} (hl : s.toList.length ≤ 65536) (hv : valL 0 (blanksL s.toList) = .error c) : parseL s.toList = .error c := by
  unfold parseL
  rw [if_neg (by omega), hv]
theorem PEnd.no {r : Except Int Nd} {c : Int} {w : World} {e : Ending} {w' : World} (hr : r = .error c) (h : e = .returned (.tuple #[.agg #[.int .i64 0, .int .i64 0, .string ⟨#[]⟩, .slice none 0 0, .slice none 0 0], .int .i64 c]) ∧ Below w.heap.size w w') : PEnd r w e w' := by subst hr; exact h
theorem PEnd.yes {r : Except Int Nd} {n : Nd} {w : World} {e : Ending} {w' : World} (hr : r = .ok n) (h : ∃ (c0 c1 : Int) (c2 : ByteArray) (c3 : Option Addr) (c4 c5 : Nat) (c6 : Option Addr) (c7 c8 : Nat),
      e = .returned (.tuple #[.agg #[.int .i64 c0, .int .i64 c1, .string c2, .slice c3 c4 c5, .slice c6 c7 c8], .int .i64 0]) ∧ NdIs w' w'.heap.size n [.int .i64 c0, .int .i64 c1, .string c2, .slice c3 c4 c5, .slice c6 c7 c8] ∧ Below w.heap.size w w') : PEnd r w e w' := by subst hr; exact h
set_option maxRecDepth 100000 in
set_option maxHeartbeats 4000000 in
theorem rParse_any (s : ByteArray) (A : Option Addr) (c : Nat) (w : World) (h : BytesAt w A c s) : Calls Try.prog 10 #[.slice A s.size c] w (PEnd (parseL s.toList) w) := by
  by_cases hl : 65536 < s.size
  · have hp : parseL s.toList = .error 2 := by unfold parseL; rw [if_pos (by rw [toList_len]; omega)]
    rw [hp]
    have hnl : (65536 : Int) < (s.size : Int) := by omega
    have HW := Lib.hid ((Below.refl w.heap.size w).alloc (Nat.le_refl _) (.cells #[.int .i64 0, .int .i64 0, .string ⟨#[]⟩, .slice none 0 0, .slice none 0 0] 27))
    have b1 := Lib.hid (Blk.new w 27 #[.int .i64 0, .int .i64 0, .string ⟨#[]⟩, .slice none 0 0, .slice none 0 0])
    clear h hp hl
    go_enter Try.func10, Try.ntmps10
    go_wp2_with fail
    generalize w.alloc (.cells #[.int .i64 0, .int .i64 0, .string ⟨#[]⟩, .slice none 0 0, .slice none 0 0] 27) = WF at *
    obtain ⟨q0, q1, q2, q3, q4⟩ := b1.out.cells5
    refine bodyPost_ret (v := .tuple #[.agg #[.int .i64 0, .int .i64 0, .string ⟨#[]⟩, .slice none 0 0, .slice none 0 0], .int .i64 2]) (by simp [results, Try.results10, go_sem, q0, q1, q2, q3, q4]) rfl ?_
    exact ⟨rfl, HW.out⟩
  have hl2 : s.toList.length ≤ 65536 := by rw [toList_len]; omega
  have hnl : ¬ (65536 : Int) < (s.size : Int) := by omega
  have hs : s.size ≤ 1000000 := by omega
  have hcv := h _ ((Below.refl w.heap.size w).alloc (Nat.le_refl _) (.cells #[.int .i64 0, .int .i64 0, .string ⟨#[]⟩, .slice none 0 0, .slice none 0 0] 27))
  have R0 : Hid (RSt ((w.alloc (.cells #[.int .i64 0, .int .i64 0, .string ⟨#[]⟩, .slice none 0 0, .slice none 0 0] 27)).alloc (.cells #[.string s, .int .i64 0, .int .i64 0, .int .i64 0] 60)) (w.heap.size + 1) s 0 0 0) := by
    have := Blk.new (w.alloc (.cells #[.int .i64 0, .int .i64 0, .string ⟨#[]⟩, .slice none 0 0, .slice none 0 0] 27)) 60 #[.string s, .int .i64 0, .int .i64 0, .int .i64 0]
    rw [show (w.alloc (.cells #[.int .i64 0, .int .i64 0, .string ⟨#[]⟩, .slice none 0 0, .slice none 0 0] 27)).heap.size = w.heap.size + 1 by simp] at this
    exact this
  have Y0 : Hid (Blk ((w.alloc (.cells #[.int .i64 0, .int .i64 0, .string ⟨#[]⟩, .slice none 0 0, .slice none 0 0] 27)).alloc (.cells #[.string s, .int .i64 0, .int .i64 0, .int .i64 0] 60)) w.heap.size 27 #[.int .i64 0, .int .i64 0, .string ⟨#[]⟩, .slice none 0 0, .slice none 0 0]) := (Blk.new w _ _).alloc _
  have G0 : Hid (w.grownBy ((w.alloc (.cells #[.int .i64 0, .int .i64 0, .string ⟨#[]⟩, .slice none 0 0, .slice none 0 0] 27)).alloc (.cells #[.string s, .int .i64 0, .int .i64 0, .int .i64 0] 60)) (some (w.heap.size + 1))) := grown_alloc (grown_alloc (grown_refl _ _) _) _
  have Z0 : Hid (((w.alloc (.cells #[.int .i64 0, .int .i64 0, .string ⟨#[]⟩, .slice none 0 0, .slice none 0 0] 27)).alloc (.cells #[.string s, .int .i64 0, .int .i64 0, .int .i64 0] 60)).heap.size = w.heap.size + 2) := by show _ = _; simp
  have HPB : Hid (∀ ce, valL 0 (blanksL s.toList) = .error ce → parseL s.toList = .error ce) := fun ce => parse_bad hl2
  have HPR : Hid (∀ n l, valL 0 (blanksL s.toList) = .ok (n, l) → parseL s.toList = if blanksL l = [] then .ok n else .error 3) := fun n l => parse_rest hl2
  obtain ⟨V, hV⟩ : ∃ V, V = parseL s.toList := ⟨_, rfl⟩
  rw [← hV] at HPB HPR ⊢
  clear h hl hl2 hV
  go_enter Try.func10, Try.ntmps10
  go_wp2_with fail
  generalize (w.alloc (.cells #[.int .i64 0, .int .i64 0, .string ⟨#[]⟩, .slice none 0 0, .slice none 0 0] 27)).alloc (.cells #[.string s, .int .i64 0, .int .i64 0, .int .i64 0] 60) = W at *
  clear hcv
  obtain ⟨rb, hrb⟩ : ∃ rb, rb = w.heap.size + 1 := ⟨_, rfl⟩
  rw [← hrb] at R0 G0 ⊢
  have hrb1 : w.heap.size < rb := by omega
  have hrb2 : rb < w.heap.size + 2 := by omega
  clear hrb
  have HV := rvalue_all rb s hs (s.size + 1) 0 0 W (by omega) (Nat.zero_le _) R0.out
  unfold VCall at HV
  rw [List.drop_zero] at HV
  cases hv : valL 0 (blanksL s.toList) with
  | error ce =>
    rw [hv] at HV
    have HC := Lib.hid (show Calls Try.prog 27 #[.pointer (some ⟨rb, 0, none⟩)] W (fun e w' => RAny e ∧ RBad rb s 0 ce W w') from HV)
    have hce : 3 ≤ ce ∧ ce ≤ 5 := (val_err _).1 0 _ _ (Nat.le_refl _) hv
    have E1 := Lib.hid (HPB.out ce hv)
    have nce : (ce != 0) = true := by rw [bne_iff_ne]; omega
    have hce2 : (ce == 0) = false := by rw [beq_eq_false_iff_ne]; omega
    clear hv HV HPB HPR hce
    refine HC.out.mono ?_; rintro e w1 ⟨⟨c0', c1', c2', c3', c4', c5', c6', c7', c8', rfl⟩, k1, hk1, h1, g1⟩
    have R1 : Hid (RSt (w1.alloc (.cells #[.int .i64 c0', .int .i64 c1', .string c2', .slice c3' c4' c5', .slice c6' c7' c8'] 27)) rb s k1 0 ce) := h1.alloc _
    have Y1 : Hid (Blk (w1.alloc (.cells #[.int .i64 c0', .int .i64 c1', .string c2', .slice c3' c4' c5', .slice c6' c7' c8'] 27)) w.heap.size 27 #[.int .i64 0, .int .i64 0, .string ⟨#[]⟩, .slice none 0 0, .slice none 0 0]) := (Y0.out.grown g1 (by intro e; injection e with e; omega)).alloc _
    have G1 : Hid (w.grownBy (w1.alloc (.cells #[.int .i64 c0', .int .i64 c1', .string c2', .slice c3' c4' c5', .slice c6' c7' c8'] 27)) (some rb)) := grown_alloc (G0.out.trans g1) _
    clear h1 g1 R0 Y0 G0
    go_wp2_with fail
    refine (rblanks_any rb s k1 0 ce _ R1.out hk1 hs).mono ?_; rintro e w2 ⟨rfl, k2, hk2, hd2, h2, g2⟩
    have R2 := Lib.hid h2
    have Y2 := Lib.hid (Y1.out.grown g2 (by intro e; injection e with e; omega))
    have G2 := Lib.hid (G1.out.trans g2)
    clear h2 g2 hd2 R1 Y1 G1
    obtain ⟨c0, c1, c2, c3⟩ := R2.out.cells4
    have R3 : Hid (∀ n, RSt (w2.drewN n) rb s k2 0 ce) := fun n => R2.out
    have Y3 : Hid (∀ n, Blk (w2.drewN n) w.heap.size 27 #[.int .i64 0, .int .i64 0, .string ⟨#[]⟩, .slice none 0 0, .slice none 0 0]) := fun n => Y2.out
    have G3 : Hid (∀ n, w.grownBy (w2.drewN n) (some rb)) := fun n => grown_drewN G2.out _
    have i0 : (0 : Int) ≤ (k2 : Int) := by omega
    by_cases hlt : k2 < s.size
    · have i1 : (k2 : Int) < (s.size : Int) := by omega
      go_wp2_with fail
      go_quiet (fail)
      go_wp2_with fail
      refine (rfail_no rb s k2 0 ce 3 hce2 _ (R3.out _)).mono ?_; rintro e w9 ⟨rfl, h9, g9⟩
      have R9 := Lib.hid h9
      have Y9 := Lib.hid ((Y3.out _).grown g9 (by intro e; injection e with e; omega))
      have G9 := Lib.hid ((G3.out _).trans g9)
      clear h9 g9 c0 c1 c2 c3 R3 Y3 G3 R2 Y2 G2
      obtain ⟨c0, c1, c2, c3⟩ := R9.out.cells4
      obtain ⟨z0, z1, z2, z3, z4⟩ := Y9.out.cells5
      have f0 := Y9.out.frozen 0
      have f1 := Y9.out.frozen 1
      have f2 := Y9.out.frozen 2
      have f3 := Y9.out.frozen 3
      have f4 := Y9.out.frozen 4
      obtain ⟨hfin, hgr, hsz, hot⟩ := laid5 Y9.out G9.out (Nat.le_refl _) (.int .i64 0) (.int .i64 0) (.string ⟨#[]⟩) (.slice none 0 0) (.slice none 0 0)
      have HFIN := Lib.hid hfin; have HGR := Lib.hid hgr
      clear hfin hgr hsz hot
      go_wp2_with fail
      go_region
      go_wp2_with fail
      clear f0 f1 f2 f3 f4 z0 z1 z2 z3 z4 c0 c1 c2 c3
      generalize (((((w9.setCell ⟨w.heap.size, 0, none⟩ (.int .i64 0)).setCell ⟨w.heap.size, 1, none⟩ (.int .i64 0)).setCell ⟨w.heap.size, 2, none⟩ (.string ⟨#[]⟩)).setCell ⟨w.heap.size, 3, none⟩ (.slice none 0 0)).setCell ⟨w.heap.size, 4, none⟩ (.slice none 0 0)) = WF at *
      obtain ⟨q0, q1, q2, q3, q4⟩ := (show Blk WF.drew w.heap.size 27 #[.int .i64 0, .int .i64 0, .string ⟨#[]⟩, .slice none 0 0, .slice none 0 0] from HFIN.out).cells5
      refine bodyPost_ret (v := .tuple #[.agg #[.int .i64 0, .int .i64 0, .string ⟨#[]⟩, .slice none 0 0, .slice none 0 0], .int .i64 ce]) (by simp [results, Try.results10, go_sem, q0, q1, q2, q3, q4]) rfl ?_
      exact PEnd.no E1.out ⟨rfl, grown_low (rb := rb) (grown_drew HGR.out) (by omega) (Nat.le_refl _)⟩
    · have i1 : ¬ (k2 : Int) < (s.size : Int) := by omega
      go_upto_region 6 with fail
      go_quiet (fail)
      go_upto_region 8 with fail
      have R9 := Lib.hid (R3.out nq)
      have Y9 := Lib.hid (Y3.out nq)
      have G9 := Lib.hid (G3.out nq)
      clear c0 c1 c2 c3 R3 Y3 G3 R2 Y2 G2
      generalize w2.drewN nq = w9 at *
      obtain ⟨c0, c1, c2, c3⟩ := R9.out.cells4
      obtain ⟨z0, z1, z2, z3, z4⟩ := Y9.out.cells5
      have f0 := Y9.out.frozen 0
      have f1 := Y9.out.frozen 1
      have f2 := Y9.out.frozen 2
      have f3 := Y9.out.frozen 3
      have f4 := Y9.out.frozen 4
      obtain ⟨hfin, hgr, hsz, hot⟩ := laid5 Y9.out G9.out (Nat.le_refl _) (.int .i64 0) (.int .i64 0) (.string ⟨#[]⟩) (.slice none 0 0) (.slice none 0 0)
      have HFIN := Lib.hid hfin; have HGR := Lib.hid hgr
      clear hfin hgr hsz hot
      go_wp2_with fail
      go_region
      go_wp2_with fail
      clear f0 f1 f2 f3 f4 z0 z1 z2 z3 z4 c0 c1 c2 c3
      generalize (((((w9.setCell ⟨w.heap.size, 0, none⟩ (.int .i64 0)).setCell ⟨w.heap.size, 1, none⟩ (.int .i64 0)).setCell ⟨w.heap.size, 2, none⟩ (.string ⟨#[]⟩)).setCell ⟨w.heap.size, 3, none⟩ (.slice none 0 0)).setCell ⟨w.heap.size, 4, none⟩ (.slice none 0 0)) = WF at *
      obtain ⟨q0, q1, q2, q3, q4⟩ := (show Blk WF.drew w.heap.size 27 #[.int .i64 0, .int .i64 0, .string ⟨#[]⟩, .slice none 0 0, .slice none 0 0] from HFIN.out).cells5
      refine bodyPost_ret (v := .tuple #[.agg #[.int .i64 0, .int .i64 0, .string ⟨#[]⟩, .slice none 0 0, .slice none 0 0], .int .i64 ce]) (by simp [results, Try.results10, go_sem, q0, q1, q2, q3, q4]) rfl ?_
      exact PEnd.no E1.out ⟨rfl, grown_low (rb := rb) (grown_drew HGR.out) (by omega) (Nat.le_refl _)⟩
  | ok p =>
    obtain ⟨n, l⟩ := p
    rw [hv] at HV
    have HC := Lib.hid (show Calls Try.prog 27 #[.pointer (some ⟨rb, 0, none⟩)] W (fun e w' => RNode n W w' e ∧ RTo rb s 0 l W w') from HV)
    have E0 := Lib.hid (HPR.out n l hv)
    clear hv HV HPB HPR
    refine HC.out.mono ?_; rintro e w1 ⟨⟨c0', c1', c2', c3', c4', c5', c6', c7', c8', rfl, hn1⟩, k1, hk1, hd1, h1, g1⟩
    have R1 : Hid (RSt (w1.alloc (.cells #[.int .i64 c0', .int .i64 c1', .string c2', .slice c3' c4' c5', .slice c6' c7' c8'] 27)) rb s k1 0 0) := h1.alloc _
    have Y1 : Hid (Blk (w1.alloc (.cells #[.int .i64 c0', .int .i64 c1', .string c2', .slice c3' c4' c5', .slice c6' c7' c8'] 27)) w.heap.size 27 #[.int .i64 0, .int .i64 0, .string ⟨#[]⟩, .slice none 0 0, .slice none 0 0]) := (Y0.out.grown g1 (by intro e; injection e with e; omega)).alloc _
    have G1 : Hid (w.grownBy (w1.alloc (.cells #[.int .i64 c0', .int .i64 c1', .string c2', .slice c3' c4' c5', .slice c6' c7' c8'] 27)) (some rb)) := grown_alloc (G0.out.trans g1) _
    have N1 : Hid (NdIn (w1.alloc (.cells #[.int .i64 c0', .int .i64 c1', .string c2', .slice c3' c4' c5', .slice c6' c7' c8'] 27)) (fun b => w.heap.size + 2 ≤ b ∧ b < w1.heap.size) n [.int .i64 c0', .int .i64 c1', .string c2', .slice c3' c4' c5', .slice c6' c7' c8']) := NdIn.keep (fun p hp => World.cell?_alloc_lt _ _ _ hp.2) (fun b hb => ⟨by have h5 : W.heap.size ≤ b := hb.1; rw [Z0.out] at h5; exact h5, hb.2⟩) _ _ hn1
    have B1 : Hid (Blk (w1.alloc (.cells #[.int .i64 c0', .int .i64 c1', .string c2', .slice c3' c4' c5', .slice c6' c7' c8'] 27)) w1.heap.size 27 #[.int .i64 c0', .int .i64 c1', .string c2', .slice c3' c4' c5', .slice c6' c7' c8']) := Blk.new w1 _ _
    have hw1 : w.heap.size + 2 ≤ w1.heap.size := by have := g1.size; rw [Z0.out] at this; exact this
    have D1 := Lib.hid hd1
    clear h1 g1 hn1 hd1 R0 Y0 G0
    go_wp2_with fail
    refine (rblanks_any rb s k1 0 0 _ R1.out hk1 hs).mono ?_; rintro e w2 ⟨rfl, k2, hk2, hd2, h2, g2⟩
    rw [D1.out] at hd2
    have R2 := Lib.hid h2
    have Y2 := Lib.hid (Y1.out.grown g2 (by intro e; injection e with e; omega))
    have B2 := Lib.hid (B1.out.grown g2 (by intro e; injection e with e; omega))
    have G2 := Lib.hid (G1.out.trans g2)
    have N2 : Hid (NdIn w2 (fun b => w.heap.size + 2 ≤ b ∧ b < w1.heap.size) n [.int .i64 c0', .int .i64 c1', .string c2', .slice c3' c4' c5', .slice c6' c7' c8']) := NdIn.keep (fun p hp => World.cell?_of_block (g2.block p.block (by have := hp.2; simp; omega) (fun e => by injection e with e; have := hp.1; omega))) (fun b hb => hb) _ _ N1.out
    have D2 := Lib.hid hd2
    have hz2 : w1.heap.size < w2.heap.size := by have := g2.size; simp at this; omega
    clear h2 g2 hd2 R1 Y1 G1 N1 B1
    obtain ⟨c0, c1, c2, c3⟩ := R2.out.cells4
    have R3 : Hid (∀ n, RSt (w2.drewN n) rb s k2 0 0) := fun n => R2.out
    have Y3 : Hid (∀ n, Blk (w2.drewN n) w.heap.size 27 #[.int .i64 0, .int .i64 0, .string ⟨#[]⟩, .slice none 0 0, .slice none 0 0]) := fun n => Y2.out
    have G3 : Hid (∀ n, w.grownBy (w2.drewN n) (some rb)) := fun n => grown_drewN G2.out _
    have i0 : (0 : Int) ≤ (k2 : Int) := by omega
    by_cases hlt : k2 < s.size
    · have i1 : (k2 : Int) < (s.size : Int) := by omega
      have E1 : Hid (V = .error 3) := by
        show _ = _
        rw [E0.out, if_neg]
        intro e
        rw [← D2.out] at e
        have := congrArg List.length e
        rw [len_drop] at this
        simp at this
        omega
      clear N2 B2 E0
      go_wp2_with fail
      go_quiet (fail)
      go_wp2_with fail
      refine (rfail_0 rb s k2 0 3 _ (R3.out _)).mono ?_; rintro e w9 ⟨rfl, h9, g9⟩
      have R9 := Lib.hid h9
      have Y9 := Lib.hid ((Y3.out _).grown g9 (by intro e; injection e with e; omega))
      have G9 := Lib.hid ((G3.out _).trans g9)
      clear h9 g9 c0 c1 c2 c3 R3 Y3 G3 R2 Y2 G2
      obtain ⟨c0, c1, c2, c3⟩ := R9.out.cells4
      obtain ⟨z0, z1, z2, z3, z4⟩ := Y9.out.cells5
      have f0 := Y9.out.frozen 0
      have f1 := Y9.out.frozen 1
      have f2 := Y9.out.frozen 2
      have f3 := Y9.out.frozen 3
      have f4 := Y9.out.frozen 4
      obtain ⟨hfin, hgr, hsz, hot⟩ := laid5 Y9.out G9.out (Nat.le_refl _) (.int .i64 0) (.int .i64 0) (.string ⟨#[]⟩) (.slice none 0 0) (.slice none 0 0)
      have HFIN := Lib.hid hfin; have HGR := Lib.hid hgr
      clear hfin hgr hsz hot
      go_wp2_with fail
      go_region
      go_wp2_with fail
      clear f0 f1 f2 f3 f4 z0 z1 z2 z3 z4 c0 c1 c2 c3
      generalize (((((w9.setCell ⟨w.heap.size, 0, none⟩ (.int .i64 0)).setCell ⟨w.heap.size, 1, none⟩ (.int .i64 0)).setCell ⟨w.heap.size, 2, none⟩ (.string ⟨#[]⟩)).setCell ⟨w.heap.size, 3, none⟩ (.slice none 0 0)).setCell ⟨w.heap.size, 4, none⟩ (.slice none 0 0)) = WF at *
      obtain ⟨q0, q1, q2, q3, q4⟩ := (show Blk WF.drew w.heap.size 27 #[.int .i64 0, .int .i64 0, .string ⟨#[]⟩, .slice none 0 0, .slice none 0 0] from HFIN.out).cells5
      refine bodyPost_ret (v := .tuple #[.agg #[.int .i64 0, .int .i64 0, .string ⟨#[]⟩, .slice none 0 0, .slice none 0 0], .int .i64 3]) (by simp [results, Try.results10, go_sem, q0, q1, q2, q3, q4]) rfl ?_
      exact PEnd.no E1.out ⟨rfl, grown_low (rb := rb) (grown_drew HGR.out) (by omega) (Nat.le_refl _)⟩
    · have i1 : ¬ (k2 : Int) < (s.size : Int) := by omega
      have E1 : Hid (V = .ok n) := by
        show _ = _
        rw [E0.out, if_pos (by rw [← D2.out]; exact drop_end s k2 (by omega))]
      clear E0
      go_upto_region 6 with fail
      go_quiet (fail)
      go_upto_region 8 with fail
      have R9 := Lib.hid (R3.out nq)
      have Y9 := Lib.hid (Y3.out nq)
      have G9 := Lib.hid (G3.out nq)
      have B9 : Hid (Blk (w2.drewN nq) w1.heap.size 27 #[.int .i64 c0', .int .i64 c1', .string c2', .slice c3' c4' c5', .slice c6' c7' c8']) := B2.out
      have N9 : Hid (NdIn (w2.drewN nq) (fun b => w.heap.size + 2 ≤ b ∧ b < w1.heap.size) n [.int .i64 c0', .int .i64 c1', .string c2', .slice c3' c4' c5', .slice c6' c7' c8']) := NdIn.keep (w := w2) (w' := w2.drewN nq) (fun _ _ => rfl) (fun _ h => h) _ _ N2.out
      have hz9 : w1.heap.size < (w2.drewN nq).heap.size := hz2
      clear c0 c1 c2 c3 R3 Y3 G3 R2 Y2 G2 B2 N2 hz2
      generalize w2.drewN nq = w9 at *
      obtain ⟨c0, c1, c2, c3⟩ := R9.out.cells4
      obtain ⟨n0, n1, n2, n3, n4⟩ := B9.out.cells5
      obtain ⟨z0, z1, z2, z3, z4⟩ := Y9.out.cells5
      have f0 := Y9.out.frozen 0
      have f1 := Y9.out.frozen 1
      have f2 := Y9.out.frozen 2
      have f3 := Y9.out.frozen 3
      have f4 := Y9.out.frozen 4
      obtain ⟨hfin, hgr, hsz, hot⟩ := laid5 Y9.out G9.out (Nat.le_refl _) (.int .i64 c0') (.int .i64 c1') (.string c2') (.slice c3' c4' c5') (.slice c6' c7' c8')
      have HFIN := Lib.hid hfin; have HGR := Lib.hid hgr; have HSZ := Lib.hid hsz; have HOT := Lib.hid hot
      clear hfin hgr hsz hot
      go_wp2_with fail
      clear f0 f1 f2 f3 f4 z0 z1 z2 z3 z4 c0 c1 c2 c3 n0 n1 n2 n3 n4
      generalize (((((w9.setCell ⟨w.heap.size, 0, none⟩ (.int .i64 c0')).setCell ⟨w.heap.size, 1, none⟩ (.int .i64 c1')).setCell ⟨w.heap.size, 2, none⟩ (.string c2')).setCell ⟨w.heap.size, 3, none⟩ (.slice c3' c4' c5')).setCell ⟨w.heap.size, 4, none⟩ (.slice c6' c7' c8')) = WF at *
      obtain ⟨q0, q1, q2, q3, q4⟩ := HFIN.out.cells5
      refine bodyPost_ret (v := .tuple #[.agg #[.int .i64 c0', .int .i64 c1', .string c2', .slice c3' c4' c5', .slice c6' c7' c8'], .int .i64 0]) (by simp [results, Try.results10, go_sem, q0, q1, q2, q3, q4]) rfl ?_
      refine PEnd.yes E1.out ⟨_, _, _, _, _, _, _, _, _, rfl, ?_, grown_low HGR.out (by omega) (Nat.le_refl _)⟩
      exact NdIn.is (B := WF.heap.size) (S := fun b => w.heap.size + 2 ≤ b ∧ b < w1.heap.size) (fun b hb => by have := hb.2; rw [HSZ.out]; omega) _ _ (NdIn.keep (fun p hp => World.cell?_of_block (HOT.out p.block (by have := hp.1; omega))) (fun b hb => hb) _ _ N9.out)
end Go.Proofs.Ytnhoecmcbikcnaa
/-! JsonReads: any bytes are read as the document reads them. -/
namespace Go.Proofs.Ytnhoecmcbikcnaa
open Go.RowKit Go.PlainAid
set_option linter.unusedVariables false
set_option linter.unusedSimpArgs false
theorem nd0z_is (w : World) (B : Nat) : NdIs w B (nd0 0) [.int .i64 0, .int .i64 0, .string ⟨#[]⟩, .slice none 0 0, .slice none 0 0] :=
  NdIn.is (S := fun _ => False) (fun b hb => hb.elim) _ _ (nd_plain 0 0 ⟨#[]⟩ (by unfold I64; omega) (by unfold I64; omega) (by decide))
def nodeR (r : Except Int Nd) : Nd := match r with
  | .error _ => nd0 0
  | .ok n => n
def codeR (r : Except Int Nd) : Int := match r with
  | .error c => c
  | .ok _ => 0
/-- what either Parse ends with: a node and an error -/
def PFlat (n : Nd) (c : Int) (w : World) (e : Ending) (w' : World) : Prop := ∃ (c0 c1 : Int) (c2 : ByteArray) (c3 : Option Addr) (c4 c5 : Nat) (c6 : Option Addr) (c7 c8 : Nat),
  e = .returned (.tuple #[.agg #[.int .i64 c0, .int .i64 c1, .string c2, .slice c3 c4 c5, .slice c6 c7 c8], .int .i64 c]) ∧ NdIs w' w'.heap.size n [.int .i64 c0, .int .i64 c1, .string c2, .slice c3 c4 c5, .slice c6 c7 c8] ∧ Below w.heap.size w w'
theorem PEnd.flat {r : Except Int Nd} {w : World} {e : Ending} {w' : World} (h : PEnd r w e w') : PFlat (nodeR r) (codeR r) w e w' := by
  cases r with
  | error c => exact ⟨0, 0, ⟨#[]⟩, none, 0, 0, none, 0, 0, h.1, nd0z_is _ _, h.2⟩
  | ok n => exact h
theorem codeR_I64 {l : List UInt8} : codeR (parseL l) = 0 ∨ (2 ≤ codeR (parseL l) ∧ codeR (parseL l) ≤ 5) := by
  cases h : parseL l with
  | error c => exact .inr (parse_err h)
  | ok n => exact .inl rfl
set_option maxRecDepth 100000 in
set_option maxHeartbeats 4000000 in
theorem jsonReads_walk (a0 : Option Addr) (len cap : Nat) (zs : List Int) (w : World) (w0 : IsRow .u8 w a0 len cap zs) :
    Calls Try.prog 3 #[.slice a0 len cap] w fun e w' => e = .returned (.bool true) ∧ Below w.heap.size w w' := by
  obtain ⟨s, rfl, hby, hcap, hmax, _, _⟩ := BytesAt.of_arg w0
  clear w0
  have hW := Below.refl w.heap.size w
  by_cases hl : 3000 < s.size ∧ s.size ≤ 65536
  · have hli : (3000 : Int) < (s.size : Int) := by omega
    have hli2 : (s.size : Int) ≤ 65536 := by omega
    clear hby
    go_enter Try.func3, Try.ntmps3
    go_wp2_with (go_at_call 8; refine (awake7_any _).mono ?_; rintro e w1 ⟨rfl, hw1⟩; (first | replace hW := nextB hW hw1 | replace hW := nextA hW hw1 | replace hW := nextB hW.drew hw1 | replace hW := nextAA hW hw1 | replace hW := nextAD hW hw1); clear hw1)
    go_ret
    exact ⟨rfl, hW⟩
  have HP : Hid (Calls Try.prog 9 #[.slice a0 s.size cap] w (PFlat (nodeR (parseL s.toList)) (codeR (parseL s.toList)) w)) := (parse_law s a0 cap w hby).mono (fun e w' h => h.flat)
  have HR : Hid (∀ w', Below w.heap.size w w' → Calls Try.prog 10 #[.slice a0 s.size cap] w' (PFlat (nodeR (parseL s.toList)) (codeR (parseL s.toList)) w')) := fun w' hb => (rParse_any s a0 cap w' (hby.later hb)).mono (fun e w' h => h.flat)
  have hc5 := codeR_I64 (l := s.toList)
  generalize nodeR (parseL s.toList) = n at *
  generalize codeR (parseL s.toList) = ec at *
  clear hby
  by_cases hl3 : 3000 < s.size
  · have hli : (3000 : Int) < (s.size : Int) := by omega
    have hli2 : ¬ (s.size : Int) ≤ 65536 := by omega
    clear hl hl3
    go_enter Try.func3, Try.ntmps3
    go_wp2_with fail
    refine (HP.out : Calls _ _ _ _ _).mono ?_; rintro e w1 ⟨c0, c1, c2, c3, c4, c5, c6, c7, c8, rfl, hn, hw1⟩
    replace hW := nextB hW hw1; clear hw1
    have hA : Below w1.heap.size w1 (w1.alloc (.cells #[.int .i64 c0, .int .i64 c1, .string c2, .slice c3 c4 c5, .slice c6 c7 c8] 27)) := (Below.refl _ _).alloc (Nat.le_refl _) _
    have HN1 := Lib.hid (NdIs.more hA.size _ _ (hn.below hA))
    have HB1 := Lib.hid (Blk.new w1 27 #[.int .i64 c0, .int .i64 c1, .string c2, .slice c3 c4 c5, .slice c6 c7 c8])
    have HW1 := Lib.hid (hW.trans (hA.mono hW.size))
    clear hn hA hW HP
    go_wp2_with fail
    refine (HR.out _ HW1.out : Calls _ _ _ _ _).mono ?_; rintro e w5 ⟨d0, d1, d2, d3, d4, d5, d6, d7, d8, rfl, hn, hw5⟩
    have hA : Below w5.heap.size w5 (w5.alloc (.cells #[.int .i64 d0, .int .i64 d1, .string d2, .slice d3 d4 d5, .slice d6 d7 d8] 27)) := (Below.refl _ _).alloc (Nat.le_refl _) _
    have hB5 := nextB hw5 hA
    have HM5 := Lib.hid (NdIs.more hA.size _ _ (hn.below hA))
    have HN5 := Lib.hid (NdIs.more hB5.size _ _ (HN1.out.below hB5))
    have HB5 := HB1.out.below hB5 HB1.out.lt
    have HW5 := Lib.hid (nextB HW1.out hB5)
    obtain ⟨x0, x1, x2, x3, x4⟩ := HB5.cells5
    clear hn hA hw5 hB5 HB5 HN1 HB1 HW1 HR
    go_wp2_with fail
    have HS := Lib.hid (rSame_any n.count n n _ _ _ _ (Nat.le_refl _) HN5.out HM5.out (Nat.le_refl _))
    rw [sameN_refl] at HS
    refine (HS.out : Calls _ _ _ _ _).mono ?_; rintro e w7 ⟨rfl, hw7⟩
    have hW := nextB HW5.out hw7
    clear hw7 HS HN5 HM5 HW5 x0 x1 x2 x3 x4
    go_wp2_with fail
    refine (jnum_any _ _).mono ?_; rintro e w8 ⟨rfl, hw⟩; obtain rfl : _ = w8 := hw
    go_wp2_with (go_at_call 8; refine (awake7_any _).mono ?_; rintro e w8 ⟨rfl, hw1⟩; (first | replace hW := nextB hW hw1 | replace hW := nextA hW hw1 | replace hW := nextB hW.drew hw1 | replace hW := nextAA hW hw1 | replace hW := nextAD hW hw1); clear hw1)
    go_ret
    exact ⟨rfl, hW⟩
  · have hli : ¬ (3000 : Int) < (s.size : Int) := by omega
    clear hl hl3
    go_enter Try.func3, Try.ntmps3
    go_wp2_with fail
    refine (HP.out : Calls _ _ _ _ _).mono ?_; rintro e w1 ⟨c0, c1, c2, c3, c4, c5, c6, c7, c8, rfl, hn, hw1⟩
    replace hW := nextB hW hw1; clear hw1
    have hA : Below w1.heap.size w1 (w1.alloc (.cells #[.int .i64 c0, .int .i64 c1, .string c2, .slice c3 c4 c5, .slice c6 c7 c8] 27)) := (Below.refl _ _).alloc (Nat.le_refl _) _
    have HN1 := Lib.hid (NdIs.more hA.size _ _ (hn.below hA))
    have HB1 := Lib.hid (Blk.new w1 27 #[.int .i64 c0, .int .i64 c1, .string c2, .slice c3 c4 c5, .slice c6 c7 c8])
    have HW1 := Lib.hid (hW.trans (hA.mono hW.size))
    clear hn hA hW HP
    go_wp2_with fail
    refine (HR.out _ HW1.out : Calls _ _ _ _ _).mono ?_; rintro e w5 ⟨d0, d1, d2, d3, d4, d5, d6, d7, d8, rfl, hn, hw5⟩
    have hA : Below w5.heap.size w5 (w5.alloc (.cells #[.int .i64 d0, .int .i64 d1, .string d2, .slice d3 d4 d5, .slice d6 d7 d8] 27)) := (Below.refl _ _).alloc (Nat.le_refl _) _
    have hB5 := nextB hw5 hA
    have HM5 := Lib.hid (NdIs.more hA.size _ _ (hn.below hA))
    have HN5 := Lib.hid (NdIs.more hB5.size _ _ (HN1.out.below hB5))
    have HB5 := HB1.out.below hB5 HB1.out.lt
    have HW5 := Lib.hid (nextB HW1.out hB5)
    obtain ⟨x0, x1, x2, x3, x4⟩ := HB5.cells5
    clear hn hA hw5 hB5 HB5 HN1 HB1 HW1 HR
    go_wp2_with fail
    have HS := Lib.hid (rSame_any n.count n n _ _ _ _ (Nat.le_refl _) HN5.out HM5.out (Nat.le_refl _))
    rw [sameN_refl] at HS
    refine (HS.out : Calls _ _ _ _ _).mono ?_; rintro e w7 ⟨rfl, hw7⟩
    have hW := nextB HW5.out hw7
    clear hw7 HS HN5 HM5 HW5 x0 x1 x2 x3 x4
    go_wp2_with fail
    refine (jnum_any _ _).mono ?_; rintro e w8 ⟨rfl, hw⟩; obtain rfl : _ = w8 := hw
    go_wp2_with (go_at_call 8; refine (awake7_any _).mono ?_; rintro e w8 ⟨rfl, hw1⟩; (first | replace hW := nextB hW hw1 | replace hW := nextA hW hw1 | replace hW := nextB hW.drew hw1 | replace hW := nextAA hW hw1 | replace hW := nextAD hW hw1); clear hw1)
    go_ret
    exact ⟨rfl, hW⟩
end Go.Proofs.Ytnhoecmcbikcnaa
/-! The walk of the reference's Find. -/
namespace Go.Proofs.Ytnhoecmcbikcnaa
open Go.RowKit Go.PlainAid
set_option linter.unusedVariables false
set_option linter.unusedSimpArgs false
def RfindP (r : Option Nd) (B : Nat) (w : World) (e : Ending) (w' : World) : Prop := ∃ (c0 c1 : Int) (c2 : ByteArray) (c3 : Option Addr) (c4 c5 : Nat) (c6 : Option Addr) (c7 c8 : Nat),
  e = .returned (.tuple #[.agg #[.int .i64 c0, .int .i64 c1, .string c2, .slice c3 c4 c5, .slice c6 c7 c8], .bool r.isSome]) ∧ NdIs w' B (r.getD (nd0 0)) [.int .i64 c0, .int .i64 c1, .string c2, .slice c3 c4 c5, .slice c6 c7 c8] ∧ Below w.heap.size w w'
theorem sym_beq (a b : List UInt8) : (a == b) = (b == a) := by
  rw [Bool.eq_iff_iff, beq_iff_eq, beq_iff_eq]; exact eq_comm
set_option maxRecDepth 100000 in
set_option maxHeartbeats 3000000 in
theorem rFind_step (k num : Int) (t : ByteArray) (ks : List ByteArray) (ns : List Nd) (A A2 : Option Addr) (ck cc : Nat) (xs : List Value) (x : ByteArray) (w : World) (B : Nat)
    (hks : Reads w B 1 A ks.length (ks.map Value.string)) (hxs : Reads w B 5 A2 ns.length xs) (hns : NdsIs w B ns xs) (hk1 : ks.length ≤ 9223372036854775807) (hk2 : ns.length ≤ 9223372036854775807)
    (hB : B ≤ w.heap.size) :
    Calls Try.prog 37 #[.agg #[.int .i64 k, .int .i64 num, .string t, .slice A ks.length ck, .slice A2 ns.length cc], .string x] w (RfindP (findN (.mk k num t ks ns) x) B w) := by
  have HXS := Lib.hid hxs
  have HNS := Lib.hid hns
  have HKS := Lib.hid hks
  have hA : Below w.heap.size w ((w.alloc (.cells #[.int .i64 k, .int .i64 num, .string t, .slice A ks.length ck, .slice A2 ns.length cc] 27)).alloc (.cells #[.int .i64 0, .int .i64 0, .string ⟨#[]⟩, .slice none 0 0, .slice none 0 0] 27)) := ((Below.refl _ _).alloc (Nat.le_refl _) _).alloc (by simp) _
  have hX : Hid (Blk ((w.alloc (.cells #[.int .i64 k, .int .i64 num, .string t, .slice A ks.length ck, .slice A2 ns.length cc] 27)).alloc (.cells #[.int .i64 0, .int .i64 0, .string ⟨#[]⟩, .slice none 0 0, .slice none 0 0] 27)) w.heap.size 27 #[.int .i64 k, .int .i64 num, .string t, .slice A ks.length ck, .slice A2 ns.length cc]) := (Blk.new w _ _).alloc _
  have hY : Hid (Blk ((w.alloc (.cells #[.int .i64 k, .int .i64 num, .string t, .slice A ks.length ck, .slice A2 ns.length cc] 27)).alloc (.cells #[.int .i64 0, .int .i64 0, .string ⟨#[]⟩, .slice none 0 0, .slice none 0 0] 27)) (w.heap.size + 1) 27 #[.int .i64 0, .int .i64 0, .string ⟨#[]⟩, .slice none 0 0, .slice none 0 0]) := by
    have := Blk.new (w.alloc (.cells #[.int .i64 k, .int .i64 num, .string t, .slice A ks.length ck, .slice A2 ns.length cc] 27)) 27 #[.int .i64 0, .int .i64 0, .string ⟨#[]⟩, .slice none 0 0, .slice none 0 0]
    show Blk _ _ _ _
    simpa using this
  obtain ⟨r, hr⟩ : ∃ r, r = findN (.mk k num t ks ns) x := ⟨_, rfl⟩
  rw [← hr]
  have HR := Lib.hid hr
  have HA := Lib.hid hA
  clear hks hxs hns hr
  go_enter Try.func37, Try.ntmps37
  go_wp2_with fail
  have HS : w.heap.size + 2 ≤ ((w.alloc (.cells #[.int .i64 k, .int .i64 num, .string t, .slice A ks.length ck, .slice A2 ns.length cc] 27)).alloc (.cells #[.int .i64 0, .int .i64 0, .string ⟨#[]⟩, .slice none 0 0, .slice none 0 0] 27)).heap.size := by simp
  clear hA
  generalize (w.alloc (.cells #[.int .i64 k, .int .i64 num, .string t, .slice A ks.length ck, .slice A2 ns.length cc] 27)).alloc (.cells #[.int .i64 0, .int .i64 0, .string ⟨#[]⟩, .slice none 0 0, .slice none 0 0] 27) = wa at *
  go_loop [6] (fun t => ∃ i : Nat, i ≤ ks.length ∧ i ≤ ns.length ∧ t = .int .i64 i ∧ Hid (∀ (j : Nat) (s : ByteArray), j < i → ks[j]? = some s → (x.toList == s.toList) = false) ∧ (0 < i → k = 7)) (fun t => ks.length - (intOf t).toNat)
  case atStart => exact ⟨0, by omega, by omega, rfl, fun j s hj => by omega, fun h => by omega⟩
  case round =>
    obtain ⟨i, hi, hi2, rfl, hno, hk7⟩ := hrel
    have HK7 := Lib.hid hk7
    clear hk7
    obtain ⟨c0, c1, c2, c3, c4⟩ := hX.out.cells5
    obtain ⟨d0, d1, d2, d3, d4⟩ := hY.out.cells5
    have f0 := hY.out.frozen 0
    have f1 := hY.out.frozen 1
    have f2 := hY.out.frozen 2
    have f3 := hY.out.frozen 3
    have f4 := hY.out.frozen 4
    have stop : ∀ (h : r = none), Hid (RfindP r B w (.returned (.tuple #[.agg #[.int .i64 0, .int .i64 0, .string ⟨#[]⟩, .slice none 0 0, .slice none 0 0], .bool false])) (((((wa.setCell ⟨w.heap.size + 1, 0, none⟩ (.int .i64 0)).setCell ⟨w.heap.size + 1, 1, none⟩ (.int .i64 0)).setCell ⟨w.heap.size + 1, 2, none⟩ (.string ⟨#[]⟩)).setCell ⟨w.heap.size + 1, 3, none⟩ (.slice none 0 0)).setCell ⟨w.heap.size + 1, 4, none⟩ (.slice none 0 0))) := fun h => by
      subst h
      exact ⟨_, _, _, _, _, _, _, _, _, rfl, nd0_is 0 (by unfold I64; omega) _ _, ((((HA.out.setCell (p := ⟨w.heap.size + 1, 0, none⟩) (by simp) _).setCell (p := ⟨w.heap.size + 1, 1, none⟩) (by simp) _).setCell (p := ⟨w.heap.size + 1, 2, none⟩) (by simp) _).setCell (p := ⟨w.heap.size + 1, 3, none⟩) (by simp) _).setCell (p := ⟨w.heap.size + 1, 4, none⟩) (by simp) _⟩
    have HSTOP := Lib.hid stop
    clear stop
    by_cases hlt : i < ks.length
    · by_cases hlt2 : i < ns.length
      · by_cases h7 : k = 7
        · subst h7
          obtain ⟨adk, s, rfl, hadk, hs, hcell⟩ := (HKS.out.keep (w' := wa) fun p hp => HA.out.cell (by omega)).str hlt
          have HSK := Lib.hid hs
          have hsy := sym_beq s.toList x.toList
          clear hs
          cases he : (x.toList == s.toList) with
          | true =>
            have he2 : (s.toList == x.toList) = true := hsy.trans he
            obtain ⟨ad, n, v0, v1, v2, v3, v4, rfl, hadb, hni, hnd, e0, e1, e2, e3, e4⟩ := (HXS.out.keep (w' := wa) fun p hp => HA.out.cell (by omega)).nd (NdsIs.keep (fun p hp => HA.out.cell (by omega)) _ _ HNS.out) hlt2
            obtain ⟨x0, x1, x2, x3, x4, x5, x6, x7, x8, rfl, rfl, rfl, rfl, rfl⟩ := hnd.form
            have e : Hid (r = some n) := by show _ = _; rw [HR.out]; simp only [findN, if_true, idxK_some HSK.out he hno.out]; exact hni
            have hfin : Hid (Blk (((((wa.setCell ⟨w.heap.size + 1, 0, none⟩ (.int .i64 x0)).setCell ⟨w.heap.size + 1, 1, none⟩ (.int .i64 x1)).setCell ⟨w.heap.size + 1, 2, none⟩ (.string x2)).setCell ⟨w.heap.size + 1, 3, none⟩ (.slice x3 x4 x5)).setCell ⟨w.heap.size + 1, 4, none⟩ (.slice x6 x7 x8)) (w.heap.size + 1) 27 #[.int .i64 x0, .int .i64 x1, .string x2, .slice x3 x4 x5, .slice x6 x7 x8]) := (((((hY.out.set_ 0 _).set_ 1 _).set_ 2 _).set_ 3 _).set_ 4 _)
            have hbel : Hid (Below w.heap.size w (((((wa.setCell ⟨w.heap.size + 1, 0, none⟩ (.int .i64 x0)).setCell ⟨w.heap.size + 1, 1, none⟩ (.int .i64 x1)).setCell ⟨w.heap.size + 1, 2, none⟩ (.string x2)).setCell ⟨w.heap.size + 1, 3, none⟩ (.slice x3 x4 x5)).setCell ⟨w.heap.size + 1, 4, none⟩ (.slice x6 x7 x8))) := ((((HA.out.setCell (p := ⟨w.heap.size + 1, 0, none⟩) (by simp) _).setCell (p := ⟨w.heap.size + 1, 1, none⟩) (by simp) _).setCell (p := ⟨w.heap.size + 1, 2, none⟩) (by simp) _).setCell (p := ⟨w.heap.size + 1, 3, none⟩) (by simp) _).setCell (p := ⟨w.heap.size + 1, 4, none⟩) (by simp) _
            have hnd2 : Hid (NdIs (((((wa.setCell ⟨w.heap.size + 1, 0, none⟩ (.int .i64 x0)).setCell ⟨w.heap.size + 1, 1, none⟩ (.int .i64 x1)).setCell ⟨w.heap.size + 1, 2, none⟩ (.string x2)).setCell ⟨w.heap.size + 1, 3, none⟩ (.slice x3 x4 x5)).setCell ⟨w.heap.size + 1, 4, none⟩ (.slice x6 x7 x8)) B n [.int .i64 x0, .int .i64 x1, .string x2, .slice x3 x4 x5, .slice x6 x7 x8]) := by
              refine NdIs.keep (fun p hp => ?_) _ _ hnd
              have ne : ∀ (g o : Nat), w.heap.size ≤ g → (⟨g, o, none⟩ : Addr) ≠ p := fun g o hg e => by subst e; have h2 : g < B := hp; omega
              rw [World.cell?_setCell_other _ _ _ _ (ne _ _ (by omega)), World.cell?_setCell_other _ _ _ _ (ne _ _ (by omega)), World.cell?_setCell_other _ _ _ _ (ne _ _ (by omega)), World.cell?_setCell_other _ _ _ _ (ne _ _ (by omega)), World.cell?_setCell_other _ _ _ _ (ne _ _ (by omega))]
            have HFIN := hfin.out
            clear hni hnd he hsy
            go_wp2_with fail
            clear hfin d0 d1 d2 d3 d4 f0 f1 f2 f3 f4
            generalize (((((wa.setCell ⟨w.heap.size + 1, 0, none⟩ (.int .i64 x0)).setCell ⟨w.heap.size + 1, 1, none⟩ (.int .i64 x1)).setCell ⟨w.heap.size + 1, 2, none⟩ (.string x2)).setCell ⟨w.heap.size + 1, 3, none⟩ (.slice x3 x4 x5)).setCell ⟨w.heap.size + 1, 4, none⟩ (.slice x6 x7 x8)) = WF at *
            obtain ⟨q0, q1, q2, q3, q4⟩ := HFIN.cells5
            refine bodyPost_ret (v := .tuple #[.agg #[.int .i64 x0, .int .i64 x1, .string x2, .slice x3 x4 x5, .slice x6 x7 x8], .bool true]) (by simp [results, Try.results37, go_sem, q0, q1, q2, q3, q4]) rfl ?_
            rw [e.out]
            exact ⟨_, _, _, _, _, _, _, _, _, rfl, hnd2.out, hbel.out⟩
          | false =>
            have he2 : (s.toList == x.toList) = false := hsy.trans he
            have hno2 : Hid (∀ (j : Nat) (s : ByteArray), j < i + 1 → ks[j]? = some s → (x.toList == s.toList) = false) := fun j s' hj hs' => by
              by_cases e : j = i
              · subst e; rw [HSK.out] at hs'; injection hs' with e2; subst e2; exact he
              · exact hno.out j s' (by omega) hs'
            clear hsy
            go_wp2_with fail
            go_round
            case rel => exact ⟨i + 1, by omega, by omega, by go_num, hno2, fun _ => by first | trivial | rfl⟩
            case measure => simp [intOf]; omega
        · have e : r = none := by rw [HR.out]; simp [findN, h7]
          have HE := HSTOP.out e
          have n7 : (k == 7) = false := by rw [beq_eq_false_iff_ne]; exact h7
          clear e
          go_wp2_with fail
          refine bodyPost_ret (v := .tuple #[.agg #[.int .i64 0, .int .i64 0, .string ⟨#[]⟩, .slice none 0 0, .slice none 0 0], .bool false]) (by simp [results, Try.results37, go_sem, d0, d1, d2, d3, d4]) rfl ?_
          exact HE.out
      · have e : r = none := by
          rw [HR.out]
          by_cases h7 : k = 7
          · subst h7
            simp only [findN, if_true]
            cases hx : idxK ks x with
            | none => rfl
            | some j =>
              have hj : ¬ j < i := fun h => by
                unfold idxK at hx
                rw [List.findIdx?_eq_some_iff_getElem] at hx
                obtain ⟨h1, h2, _⟩ := hx
                have := hno.out j ks[j] h (List.getElem?_eq_getElem h1)
                rw [this] at h2; cases h2
              exact List.getElem?_eq_none (by omega)
          · simp [findN, h7]
        have HE := HSTOP.out e
        clear e
        go_wp2_with fail
        refine bodyPost_ret (v := .tuple #[.agg #[.int .i64 0, .int .i64 0, .string ⟨#[]⟩, .slice none 0 0, .slice none 0 0], .bool false]) (by simp [results, Try.results37, go_sem, d0, d1, d2, d3, d4]) rfl ?_
        exact HE.out
    · have e : r = none := by
        rw [HR.out]
        by_cases h7 : k = 7
        · subst h7
          simp only [findN, if_true]
          rw [idxK_none (fun j s hj => hno.out j s (by have := (List.getElem?_eq_some_iff.1 hj).1; omega) hj)]
        · simp [findN, h7]
      have HE := HSTOP.out e
      clear e
      go_wp2_with fail
      refine bodyPost_ret (v := .tuple #[.agg #[.int .i64 0, .int .i64 0, .string ⟨#[]⟩, .slice none 0 0, .slice none 0 0], .bool false]) (by simp [results, Try.results37, go_sem, d0, d1, d2, d3, d4]) rfl ?_
      exact HE.out
/-- the reference's Find -/
theorem rFind_any (n : Nd) (x : ByteArray) (cs : List Value) (w : World) (B : Nat) (hn : NdIs w B n cs) (hB : B ≤ w.heap.size) : Calls Try.prog 37 #[.agg cs.toArray, .string x] w (RfindP (findN n x) B w) := by
  cases n with
  | mk k num t ks ns =>
    unfold NdIs at hn
    obtain ⟨A, ck, A2, cc, xs, rfl, hks, hxs, hns, ik, inn, ht, hkl, hk, hmm⟩ := hn
    exact rFind_step k num t ks ns A A2 ck cc xs x w B hks hxs hns hk hmm hB
end Go.Proofs.Ytnhoecmcbikcnaa
