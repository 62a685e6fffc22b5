/- TreeMade: its walk. -/
import Derived.Test.YtlmelclfdafhbaaTreeC4
import Derived.OpenShut
import Derived.BigRegion
import Derived.Deep.RegionHeld3
namespace Go.Proofs.Ytlmelclfdafhbaa
open Go.RowKit Go.PlainAid
set_option linter.unusedVariables false
set_option linter.unusedSimpArgs false
theorem row8 {w : World} {a : Option Addr} {len cap : Nat} {zs : List Int} (h : IsRow .u8 w a len cap zs) : ∀ k, k < len → ∃ b off x, a = some ⟨b, off, none⟩ ∧ b < w.heap.size ∧ w.cell? ⟨b, off + k, none⟩ = some (.int .u8 x) ∧ 0 ≤ x ∧ x ≤ 255 := by
  intro k hk
  rcases h with ⟨rfl, rfl, rfl, rfl⟩ | ⟨x, rfl, h1, h2, h3, h4, h5⟩
  · omega
  · obtain ⟨b, off, rfl, h6⟩ := ints_at h4 (by omega)
    have hm := h5 (zs.getD k 0) (by simp [List.getD, show k < zs.length by omega])
    simp [Lit.wf] at hm
    have e1 : IntKind.u8.min = 0 := rfl
    have e2 : IntKind.u8.max = 255 := rfl
    rw [e1, e2] at hm
    exact ⟨b, off, zs.getD k 0, rfl, World.block_lt_of_cell? _ _ (h6 k (by omega)), h6 k (by omega), by simpa [List.getD] using hm.1, by simpa [List.getD] using hm.2⟩
def MadeRel (w : World) (l : List Bx) (ps : List ByteArray) (A A2 : Option Addr) (c c2 m : Nat) (wr : World) : Prop :=
  l.length = m + 1 ∧ Good l ps ∧ wr.ownsRow w.heap.size 27 6 (.slice A (m + 1) c) (m + 1) (l.flatMap cellsB) ∧ wr.ownsRow w.heap.size 9 1 (.slice A2 (m + 1) c2) (m + 1) (ps.map Value.string) ∧ Below w.heap.size w wr
theorem found_good (w : World) (l : List Bx) (ps : List ByteArray) (A : Option Addr) (n c i : Nat) (hn : n = l.length) (hx : BoxAt w A l) (hg : Good l ps) (hi : i < n) : FoundIs A n c (pathAt ps i) ((i : Int) + 1) w := by
  have hs : (pathAt ps i).size ≤ 1000000 := (good_made hg).size i (by omega)
  rcases Nat.eq_zero_or_pos i with h0 | h0
  · subst h0
    have e : pathAt ps 0 = ⟨#[73, 78, 66, 79, 88]⟩ := pathAt_of hg.zero
    rw [e]
    exact found_inbox l (pathAt ps) A n c 0 _ w hn hx (good_made hg) hi (by decide) (by simp) e (fun j hj => by omega) (by decide +kernel) rfl
  · exact found_other l (pathAt ps) A n c i _ w hn hx (good_made hg) hi hs (good_fold hg (by omega) h0) rfl (fun j hj => good_ne hg (by omega) (by omega) (by omega)) (good_some hg (by omega))
theorem found_in (w : World) (l : List Bx) (ps : List ByteArray) (A : Option Addr) (n c : Nat) (hn : n = l.length) (hx : BoxAt w A l) (hg : Good l ps) : FoundIs A n c ⟨#[105, 110, 66, 79, 88]⟩ 1 w :=
  found_inbox l (pathAt ps) A n c 0 _ w hn hx (good_made hg) (by have := hg.some_; omega) (by decide) (by decide +kernel) (pathAt_of hg.zero) (fun j hj => by omega) (by decide +kernel) rfl
theorem box_of_own {w : World} {B c n g : Nat} {l : List Bx} (h : w.ownsRow B 27 6 (.slice (some ⟨g, 0, none⟩) n c) n (l.flatMap cellsB)) (hg : g < w.heap.size) : BoxAt w (some ⟨g, 0, none⟩) l := by
  intro k b hk
  have hc : ∀ j u, (cellsB b)[j]? = some u → w.cell? ⟨g, k * 6 + j, none⟩ = some u := fun j u hj => by
    have hj6 : j < 6 := (List.getElem?_eq_some_iff.1 hj).1
    have := World.ownsRow.cells h (g := g) rfl (k * 6 + j) u (by rw [flat_at l k j b hk hj6]; exact hj)
    rw [show (⟨g, 0, none⟩ : Addr).add (k * 6 + j) = ⟨g, k * 6 + j, none⟩ by unfold Addr.add; split <;> simp_all] at this
    exact this
  exact ⟨g, rfl, hg, hc 0 _ rfl, hc 1 _ rfl, hc 2 _ rfl, hc 3 _ rfl, hc 4 _ rfl, hc 5 _ rfl⟩
def L2 (W : World) (a1 a2 : Addr) (v1 v2 : Value) (w : World) : Prop := w.cell? a1 = some v1 ∧ w.cell? a2 = some v2 ∧ Below W.heap.size W w
theorem l2_below {W w w' : World} {a1 a2 : Addr} {v1 v2 : Value} (h : L2 W a1 a2 v1 v2 w) (k : Below w.heap.size w w') : L2 W a1 a2 v1 v2 w' :=
  ⟨(k.cell (World.block_lt_of_cell? _ _ h.1)).trans h.1, (k.cell (World.block_lt_of_cell? _ _ h.2.1)).trans h.2.1, nextB h.2.2 k⟩
theorem l2_drew {W w : World} {a1 a2 : Addr} {v1 v2 : Value} (h : L2 W a1 a2 v1 v2 w) : L2 W a1 a2 v1 v2 w.drew := ⟨h.1, h.2.1, h.2.2.drew⟩
set_option maxRecDepth 100000 in
set_option maxHeartbeats 8000000 in
theorem treeMade_walk (a0 : Option Addr) (len cap : Nat) (zs : List Int) (w : World) (w0 : IsRow .u8 w a0 len cap zs) :
    Calls Try.prog 6 #[.slice a0 len cap] w fun e w' => e = .returned (.bool true) ∧ Below w.heap.size w w' := by
  have hW := Below.refl w.heap.size w
  have HR8 := Lib.hid (row8 w0)
  by_cases hn : len ≤ 20
  case neg =>
    have hli : (20 : Int) < (len : Int) := by omega
    clear w0 HR8
    go_enter Try.func6, Try.ntmps6
    go_wp2_with (go_at_call 10; refine (awake16_any _).mono ?_; rintro e w1 ⟨rfl, hw1⟩; (first | replace hW := nextB hW hw1 | replace hW := nextA hW hw1 | replace hW := nextB hW.drew hw1 | replace hW := nextAA hW hw1 | replace hW := nextAD hW hw1); clear hw1)
    go_ret
    exact ⟨rfl, hW⟩
  have hli : ¬ (20 : Int) < (len : Int) := by omega
  clear w0
  have st : MadeRel w [⟨1, inboxS, 0⟩] [inboxS] (some ⟨w.heap.size, 0, none⟩) (some ⟨w.heap.size + 1, 0, none⟩) 1 1 0 ((w.alloc (.cells #[.int .i64 1, .string inboxS, .int .i64 0, .int .i64 0, .int .i64 0, .int .i64 0] 27)).alloc (.cells #[.string inboxS] 9)) := by
    refine ⟨rfl, good_start, ?_, ?_, (hW.alloc (Nat.le_refl _) _).alloc (by simp) _⟩
    · exact World.ownsRow.alloc (World.ownsRow_lit w #[.int .i64 1, .string inboxS, .int .i64 0, .int .i64 0, .int .i64 0, .int .i64 0] 1 (Nat.le_refl _) (by decide) rfl) _
    · have := World.ownsRow_lit (e := 9) (size := 1) (base := w.heap.size) (w.alloc (.cells #[.int .i64 1, .string inboxS, .int .i64 0, .int .i64 0, .int .i64 0, .int .i64 0] 27)) #[.string inboxS] 1 (by simp) (by decide) rfl
      rw [show (w.alloc (.cells #[.int .i64 1, .string inboxS, .int .i64 0, .int .i64 0, .int .i64 0, .int .i64 0] 27)).heap.size = w.heap.size + 1 by simp] at this
      exact this
  have HST := Lib.hid st
  clear st
  unfold inboxS at HST
  go_enter Try.func6, Try.ntmps6
  go_wp2_with fail
  go_loopw [3, 4, 5] (fun t3 t4 t5 wr => ∃ (m : Nat) (l : List Bx) (ps : List ByteArray) (A A2 : Option Addr) (c c2 : Nat), m ≤ len ∧ t3 = .slice A (m + 1) c ∧ t4 = .slice A2 (m + 1) c2 ∧ t5 = .int .i64 m ∧ Hid (MadeRel w l ps A A2 c c2 m wr)) (fun _ _ t5 _ => len - (intOf t5).toNat)
  case atStart => exact ⟨0, _, _, _, _, _, _, by omega, rfl, rfl, rfl, HST⟩
  case round =>
    obtain ⟨m, l, ps, A, A2, c, c2, hm, rfl, rfl, rfl, hr⟩ := hrel
    by_cases hlt : m < len
    · obtain ⟨pb, off, x, rfl, hpb, hpc, x0, x1⟩ := HR8.out m hlt
      have hlm := hr.out.1
      have hgd := Lib.hid hr.out.2.1
      have ho1 := Lib.hid hr.out.2.2.1
      have ho2 := Lib.hid hr.out.2.2.2.1
      have hw := Lib.hid hr.out.2.2.2.2
      have HLM := Lib.hid hlm
      have p1 : wr.cell? ⟨pb, off + m, none⟩ = some (.int .u8 x) := by rw [hw.out.cell (p := ⟨pb, off + m, none⟩) hpb]; exact hpc
      obtain ⟨r, hr2⟩ : ∃ r : Nat, (r : Int) = x % ((m : Int) + 1 + 1) := ⟨(x % ((m : Int) + 1 + 1)).toNat, by rw [Int.toNat_of_nonneg]; exact Int.emod_nonneg _ (by omega)⟩
      have hrm : (r : Int) < (m : Int) + 1 + 1 := by rw [hr2]; exact Int.emod_lt_of_pos _ (by omega)
      have hrm2 : r ≤ m + 1 := by omega
      have rp : x.tmod ((m : Int) + 1 + 1) = r := by rw [hr2]; exact Int.tmod_eq_emod_of_nonneg x0
      have xw : IntKind.i64.wrap x = x := IntWalk.i64_in _ (by omega)
      have mw : IntKind.u8.wrap (97 + (m : Int)) = 97 + (m : Int) := by simp [IntKind.wrap, IntKind.bits, IntKind.signed]; omega
      have kc := nm_conv wr m 2
      clear hr hlm hpc hr2
      have hszN : (nmS m).size = 2 := (nmS_last m (by omega)).2
      have hlast := Lib.hid (nmS_last m (by omega)).1
      have HSZN := Lib.hid hszN
      have ow1 := Lib.hid (World.ownsRow.alloc (World.ownsRow.alloc ho1.out (.cells #[.int .u8 110, .int .u8 (97 + (m : Int))] 5)) (.cells #[.int .i64 ((m : Int) + 2), .string (nmS m), .int .i64 r, .int .i64 0, .int .i64 0, .int .i64 0] 27))
      have ow2 := Lib.hid (World.ownsRow.alloc (World.ownsRow.alloc ho2.out (.cells #[.int .u8 110, .int .u8 (97 + (m : Int))] 5)) (.cells #[.int .i64 ((m : Int) + 2), .string (nmS m), .int .i64 r, .int .i64 0, .int .i64 0, .int .i64 0] 27))
      have hwb : Below w.heap.size w ((wr.alloc (.cells #[.int .u8 110, .int .u8 (97 + (m : Int))] 5)).alloc (.cells #[.int .i64 ((m : Int) + 2), .string (nmS m), .int .i64 r, .int .i64 0, .int .i64 0, .int .i64 0] 27)) := (hw.out.alloc hw.out.size _).alloc (by have := hw.out.size; simp; omega) _
      have HWB := Lib.hid hwb
      have ho2c := Lib.hid (own_reads ho2.out)
      clear hwb hszN
      generalize hN : nmS m = N at *
      have HN := Lib.hid hN
      clear hN
      rcases Nat.eq_zero_or_pos r with hr0 | hr0
      · subst hr0
        go_wp2_with (first
          | (at_builtin; refine wpList_pushBox2 _ rfl _ _ rfl w.heap.size (.slice A (m + 1) c) (m + 1) (l.flatMap cellsB) (by first | rfl | simp [Act.eval]) ow1.out (.slice A2 (m + 1) c2) (m + 1) (ps.map Value.string) ow2.out ⟨(m : Int) + 2, N, 0⟩ (by first | rfl | simp [Act.eval]) ?lim HWB.out.size ?_; (case lim => omega); intro v' w4 o1 o2 k4; obtain ⟨Av, cv, rfl⟩ := own_form o1; have O1 := Lib.hid o1; have O2 := Lib.hid o2; have K4 := Lib.hid (HWB.out.trans k4); clear o1 o2 k4 ow1 ow2)
          | (at_builtin; refine wpList_pushStr2 _ rfl _ _ rfl w.heap.size (.slice A2 (m + 1) c2) (m + 1) (ps.map Value.string) (by first | rfl | simp [Act.eval]) O2.out (.slice Av (m + 1 + 1) cv) (m + 1 + 1) _ O1.out N (by first | rfl | simp [Act.eval]) ?lim K4.out.size ?_; (case lim => omega); intro v' w5 o1 o2 k5; obtain ⟨Av2, cv2, rfl⟩ := own_form o1; have O3 := Lib.hid o1; have O4 := Lib.hid o2; have K5 := Lib.hid (K4.out.trans k5); clear o1 o2 k5 O1 O2))
        refine ⟨⟨m + 1, l ++ [⟨(m : Int) + 2, N, 0⟩], ps ++ [N], Av, Av2, cv, cv2, by omega, rfl, rfl, by go_num, ?_⟩, by simp [intOf]; omega⟩
        refine ⟨by simp [HLM.out], good_snoc hgd.out (by rw [HLM.out]; omega) _ _ (by rw [HLM.out]; show (m : Int) + 2 = _; omega) (by rw [HLM.out]; exact hlast.out) (by show N.size ≤ 5; rw [HSZN.out]; omega) (.inl ⟨rfl, rfl⟩), ?_, ?_, K5.out⟩
        · rw [List.flatMap_append]
          have := O4.out
          simpa using this
        · rw [List.map_append]
          exact O3.out
      · obtain ⟨j, rfl⟩ : ∃ j, r = j + 1 := ⟨r - 1, by omega⟩
        have hjm : j ≤ m := by omega
        obtain ⟨qp, hqp⟩ : ∃ qp, ps[j]? = some qp := ⟨_, List.getElem?_eq_getElem (by rw [hgd.out.same, HLM.out]; omega)⟩
        obtain ⟨g2, cp2, hv2, _, hg2⟩ := World.ownsRow.form ho2.out (by omega)
        injection hv2 with e1 e0 e3
        subst e1 e3
        clear e0
        obtain ⟨ad, e2, had, hcs⟩ := ho2c.out.2 (by omega)
        injection e2 with e2
        subst e2
        have hqs := (hgd.out.last j qp hqp).2
        have hqc : wr.cell? ⟨g2, j, none⟩ = some (.string qp) := by
          have := hcs j (.string qp) (by rw [List.getElem?_map, hqp]; rfl)
          rw [show (⟨g2, 0, none⟩ : Addr).add j = ⟨g2, j, none⟩ by unfold Addr.add; split <;> simp_all] at this
          exact this
        have hqc2 : ((wr.alloc (.cells #[.int .u8 110, .int .u8 (97 + (m : Int))] 5)).alloc (.cells #[.int .i64 ((m : Int) + 2), .string N, .int .i64 ((j + 1 : Nat) : Int), .int .i64 0, .int .i64 0, .int .i64 0] 27)).cell? ⟨g2, j, none⟩ = some (.string qp) := by
          rw [World.cell?_alloc_lt _ _ _ (by simp; omega), World.cell?_alloc_lt _ _ _ (by show g2 < _; omega)]; exact hqc
        have HQP := Lib.hid hqp
        have hz1 : qp.size ≤ 300 := by omega
        have hz2 : N.size ≤ 5 := by rw [HSZN.out]; omega
        have hz3 : (⟨#[47]⟩ : ByteArray).size = 1 := rfl
        have hjl : (j : Int) < (m : Int) + 1 := by omega
        have hjl2 : j < m + 1 := by omega
        have hj0 : (0 : Int) ≤ (j : Int) := by omega
        clear hcs hqp had hqs hr0
        go_wp2_with fail
        have hq1 : ¬ 9223372036854775807 < qp.size + 1 := by omega
        have hq2 : ¬ 9223372036854775807 < qp.size + 1 + N.size := by omega
        go_region
        all_goals
          go_wp2_with (first
            | (at_builtin; refine wpList_pushBox2 _ rfl _ _ rfl w.heap.size (.slice A (m + 1) c) (m + 1) (l.flatMap cellsB) (by first | rfl | simp [Act.eval]) ow1.out.drew (.slice (some ⟨g2, 0, none⟩) (m + 1) c2) (m + 1) (ps.map Value.string) ow2.out.drew ⟨(m : Int) + 2, N, ((j + 1 : Nat) : Int)⟩ (by first | rfl | simp [Act.eval]) ?lim HWB.out.drew.size ?_; (case lim => omega); intro v' w4 o1 o2 k4; obtain ⟨Av, cv, rfl⟩ := own_form o1; have O1 := Lib.hid o1; have O2 := Lib.hid o2; have K4 := Lib.hid (HWB.out.drew.trans k4); clear o1 o2 k4 ow1 ow2)
            | (at_builtin; refine wpList_pushStr2 _ rfl _ _ rfl w.heap.size (.slice (some ⟨g2, 0, none⟩) (m + 1) c2) (m + 1) (ps.map Value.string) (by first | rfl | simp [Act.eval]) O2.out (.slice Av (m + 1 + 1) cv) (m + 1 + 1) _ O1.out (qp ++ (⟨#[47]⟩ : ByteArray) ++ N) (by first | rfl | simp [Act.eval]) ?lim K4.out.size ?_; (case lim => omega); intro v' w5 o1 o2 k5; obtain ⟨Av2, cv2, rfl⟩ := own_form o1; have O3 := Lib.hid o1; have O4 := Lib.hid o2; have K5 := Lib.hid (K4.out.trans k5); clear o1 o2 k5 O1 O2))
          refine ⟨⟨m + 1, l ++ [⟨(m : Int) + 2, N, ((j + 1 : Nat) : Int)⟩], ps ++ [qp ++ (⟨#[47]⟩ : ByteArray) ++ N], Av, Av2, cv, cv2, by omega, rfl, rfl, by go_num, ?_⟩, by simp [intOf]; omega⟩
          refine ⟨by simp [HLM.out], good_snoc hgd.out (by rw [HLM.out]; omega) _ _ (by rw [HLM.out]; show (m : Int) + 2 = _; omega) (by rw [HLM.out]; exact hlast.out) (by show N.size ≤ 5; rw [HSZN.out]; omega) (.inr ⟨j, qp, by simp, HQP.out, rfl⟩), ?_, ?_, K5.out⟩
          · rw [List.flatMap_append]
            have := O4.out
            simpa using this
          · rw [List.map_append]
            exact O3.out
    · obtain rfl : m = len := by omega
      have HLM := Lib.hid hr.out.1
      have HGD := Lib.hid hr.out.2.1
      obtain ⟨g1, cp1, hv1, hge1, hg1⟩ := World.ownsRow.form hr.out.2.2.1 (by omega)
      obtain ⟨g2, cp2, hv2, hge2, hg2⟩ := World.ownsRow.form hr.out.2.2.2.1 (by omega)
      injection hv1 with e1 e0 e3
      injection hv2 with e4 e5 e6
      subst e1 e3 e4 e6
      clear e0 e5
      have HBX := Lib.hid (box_of_own hr.out.2.2.1 hg1)
      have hpc : ∀ i, i < m + 1 → wr.cell? ⟨g2, i, none⟩ = some (.string (pathAt ps i)) := fun i hi => by
        have hps : i < ps.length := by rw [HGD.out.same, HLM.out]; exact hi
        have := World.ownsRow.cells hr.out.2.2.2.1 (g := g2) rfl i (.string ps[i]) (by rw [List.getElem?_map, List.getElem?_eq_getElem hps]; rfl)
        rw [show (⟨g2, 0, none⟩ : Addr).add i = ⟨g2, i, none⟩ by unfold Addr.add; split <;> simp_all] at this
        rw [this, pathAt_of (List.getElem?_eq_getElem hps)]
      have HPC := Lib.hid hpc
      have HWR := Lib.hid hr.out.2.2.2.2
      have HB0 := Lib.hid (Below.refl wr.heap.size wr)
      clear hr hpc hlt hge1 hge2
      obtain ⟨W, rfl⟩ : ∃ W : World, W = wr := ⟨_, rfl⟩
      go_wp2_with fail
      go_loopw [9] (fun t9 w2 => ∃ i : Nat, i ≤ m + 1 ∧ t9 = .int .i64 i ∧ Hid (Below W.heap.size W w2)) (fun t9 _ => m + 1 - (intOf t9).toNat)
      case atStart => exact ⟨0, by omega, rfl, HB0⟩
      case round =>
        obtain ⟨i, hi, rfl, hb2⟩ := hrel
        obtain ⟨w2, rfl⟩ : ∃ w2 : World, w2 = wr := ⟨_, rfl⟩
        by_cases hlt : i < m + 1
        · have hil : i < l.length := by rw [HLM.out]; exact hlt
          obtain ⟨b, hb⟩ : ∃ b, l[i]? = some b := ⟨_, List.getElem?_eq_getElem hil⟩
          have HB := Lib.hid hb
          obtain ⟨g, eg, _, _, _, q2, _, _, _⟩ := HBX.out i b hb
          injection eg with eg
          injection eg with eg
          subst eg
          have k1 : w2.cell? ⟨g2, i, none⟩ = some (.string (pathAt ps i)) := by rw [hb2.out.cell (p := ⟨g2, i, none⟩) hg2]; exact HPC.out i hlt
          have k2 : w2.cell? ⟨g1, i * 6 + 2, none⟩ = some (.int .i64 b.par) := by rw [hb2.out.cell (p := ⟨g1, i * 6 + 2, none⟩) hg1]; exact q2
          have HFD := Lib.hid (found_good w2 l ps (some ⟨g1, 0, none⟩) (m + 1) c i HLM.out.symm (HBX.out.below hb2.out) HGD.out hlt)
          unfold FoundIs at HFD
          have HP0 : Hid (∀ w', Below W.heap.size W w' → Calls Try.prog 12 #[.slice (some ⟨g1, 0, none⟩) (m + 1) c, .int .i64 ((i : Int) + 1)] w' fun e w'' => e = .returned (.string (pathAt ps i)) ∧ Below w'.heap.size w' w'') := fun w' h => path_made l (pathAt ps) _ _ c i w' HLM.out.symm (HBX.out.below h) (good_made HGD.out) hlt
          have iw : IntKind.i64.wrap ((i : Int) + 1) = (i : Int) + 1 := IntWalk.i64_in _ (by omega)
          have i0 : (0 : Int) ≤ (i : Int) := by omega
          have i1 : (i : Int) < (m : Int) + 1 := by omega
          have hpar := (good_made HGD.out).par i b hb
          clear hb q2 hil
          generalize hT : pathAt ps i = T at *
          clear hT
          obtain ⟨p, hpp⟩ : ∃ p, p = b.par := ⟨_, rfl⟩
          rw [← hpp] at k2 hpar
          rcases hpar with hp | ⟨j, hp, hji⟩
          · have hn0 : ¬ (0 : Int) < p := by omega
            have HN1 : Hid (decide ((0 : Int) < p) = false) := by show _ = _; simp; omega
            clear hp hpp
            have HPA : Hid (∀ w', L2 W ⟨g2, i, none⟩ ⟨g1, i * 6 + 2, none⟩ (.string T) (.int .i64 p) w' → Calls Try.prog 12 #[.slice (some ⟨g1, 0, none⟩) (m + 1) c, .int .i64 ((i : Int) + 1)] w' fun e w'' => e = .returned (.string T) ∧ Below w'.heap.size w' w'') := fun w' h => HP0.out w' h.2.2
            have HU1 : Hid (∀ w', Calls Try.prog 13 #[.slice (some ⟨g1, 0, none⟩) (m + 1) c, .int .i64 ((i : Int) + 1), .int .i64 ((i : Int) + 1)] w' fun e w'' => e = .returned (.bool true) ∧ Below w'.heap.size w' w'') := fun w' => under_self _ _ _ _ w' (by omega)
            have HLS : Hid (L2 W ⟨g2, i, none⟩ ⟨g1, i * 6 + 2, none⟩ (.string T) (.int .i64 p) w2) := ⟨k1, k2, hb2.out⟩
            clear HP0
            go_wp2_with fail
            refine (HFD.out : Calls _ _ _ _ _).mono ?_; rintro e w3 ⟨rfl, hw3⟩
            have HLS3 := Lib.hid (l2_below HLS.out hw3)
            clear HLS hw3 HFD k1 k2
            go_wp2_with fail
            try clear HGD
            try clear HPC
            try clear HBX
            try clear HWR
            try clear HB0
            try clear HB
            try clear HLM
            try clear hli
            try clear hb2
            have hH0 : L2 W ⟨g2, i, none⟩ ⟨g1, i * 6 + 2, none⟩ (.string T) (.int .i64 p) w3.drew := l2_drew HLS3.out
            refine wp_region_held_drew (S := L2 W ⟨g2, i, none⟩ ⟨g1, i * 6 + 2, none⟩ (.string T) (.int .i64 p)) (by kernel_rfl) hH0 (fun hH => ?_)
            clear hH0 HLS3
            refine wpAnyH_take (i := 0) (oi := { dst := some 81, op := Op.move (Operand.tmp 3), type := 28, pos := "law.go:75", after := #[], guard := none }) (v := (.slice (some ⟨g1, 0, none⟩) (m + 1) c)) rfl (by kernel_rfl) (by kernel_rfl) (by kernel_rfl) (fun _ _ _ h => h) (Or.inl ⟨by kernel_rfl, fun w9 hS9 => ?_⟩) hH ?_
            · kernel_rfl
            try simp only [Act.put, List.setIfInBounds_toArray, List.set_cons_zero, List.set_cons_succ]
            refine wpAnyH_take (i := 1) (oi := { dst := some 82, op := Op.move (Operand.tmp 9), type := 3, pos := "law.go:75", after := #[], guard := none }) (v := (.int .i64 i)) rfl (by kernel_rfl) (by kernel_rfl) (by kernel_rfl) (fun _ _ _ h => h) (Or.inl ⟨by kernel_rfl, fun w9 hS9 => ?_⟩) hH ?_
            · kernel_rfl
            try simp only [Act.put, List.setIfInBounds_toArray, List.set_cons_zero, List.set_cons_succ]
            refine wpAnyH_take (i := 2) (oi := { dst := some 83, op := Op.binOp BinOp.add 3 (Operand.tmp 82) (Operand.const (Value.int IntKind.i64 1)) 3, type := 3, pos := "law.go:75", after := #[{ on := 1, ground := Ground.data }], guard := none }) (v := (.int .i64 ((i : Int) + 1))) rfl (by kernel_rfl) (by kernel_rfl) (by kernel_rfl) (fun _ _ _ h => h) (Or.inl ⟨by kernel_rfl, fun w9 hS9 => ?_⟩) hH ?_
            · obtain ⟨s0, s1, s2⟩ := hS9
              go_simp
            try simp only [Act.put, List.setIfInBounds_toArray, List.set_cons_zero, List.set_cons_succ]
            refine wpAnyH_take (i := 4) (oi := { dst := some 85, op := Op.move (Operand.tmp 4), type := 29, pos := "law.go:75", after := #[], guard := none }) (v := (.slice (some ⟨g2, 0, none⟩) (m + 1) c2)) rfl (by kernel_rfl) (by kernel_rfl) (by kernel_rfl) (fun _ _ _ h => h) (Or.inl ⟨by kernel_rfl, fun w9 hS9 => ?_⟩) hH ?_
            · kernel_rfl
            try simp only [Act.put, List.setIfInBounds_toArray, List.set_cons_zero, List.set_cons_succ]
            refine wpAnyH_take (i := 5) (oi := { dst := some 86, op := Op.move (Operand.tmp 9), type := 3, pos := "law.go:75", after := #[], guard := none }) (v := (.int .i64 i)) rfl (by kernel_rfl) (by kernel_rfl) (by kernel_rfl) (fun _ _ _ h => h) (Or.inl ⟨by kernel_rfl, fun w9 hS9 => ?_⟩) hH ?_
            · kernel_rfl
            try simp only [Act.put, List.setIfInBounds_toArray, List.set_cons_zero, List.set_cons_succ]
            refine wpAnyH_take (i := 6) (oi := { dst := some 87, op := Op.indexAddr 29 (Operand.tmp 85) (Operand.tmp 86), type := 0, pos := "law.go:75", after := #[{ on := 4, ground := Ground.data }, { on := 5, ground := Ground.data }], guard := none }) (v := (.pointer (some ⟨g2, i, none⟩))) rfl (by kernel_rfl) (by kernel_rfl) (by kernel_rfl) (fun _ _ _ h => h) (Or.inl ⟨by kernel_rfl, fun w9 hS9 => ?_⟩) hH ?_
            · obtain ⟨s0, s1, s2⟩ := hS9
              go_simp
            try simp only [Act.put, List.setIfInBounds_toArray, List.set_cons_zero, List.set_cons_succ]
            refine wpAnyH_take (i := 7) (oi := { dst := some 88, op := Op.load 9 (Operand.tmp 87), type := 9, pos := "law.go:75", after := #[{ on := 6, ground := Ground.data }], guard := none }) (v := (.string T)) rfl (by kernel_rfl) (by kernel_rfl) (by kernel_rfl) (fun _ _ _ h => h) (Or.inl ⟨by kernel_rfl, fun w9 hS9 => ?_⟩) hH ?_
            · obtain ⟨s0, s1, s2⟩ := hS9
              go_simp
            try simp only [Act.put, List.setIfInBounds_toArray, List.set_cons_zero, List.set_cons_succ]
            refine wpAnyH_ready (rs := [3]) (by kernel_rfl) (by simp) ?_
            refine AllReadyH.cons (o := { dst := some 84, op := Op.call { callee := Callee.value (Operand.func 12), args := #[Operand.tmp 81, Operand.tmp 83], argTypes := #[28, 3] }, type := 9, pos := "law.go:75", after := #[{ on := 0, ground := Ground.data }, { on := 2, ground := Ground.data }], guard := none }) rfl (fun K hK => ?_) AllReadyH.nil
            go_simp
            go_at_call 12
            refine (HPA.out _ hH).mono ?_
            rintro e w5 ⟨rfl, hw5⟩
            refine hK.out _ _ (l2_below hH hw5) (fun hH2 => ?_)
            clear hK K hH hw5
            have hH := hH2
            clear hH2
            try simp only [Act.put, List.setIfInBounds_toArray, List.set_cons_zero, List.set_cons_succ]
            refine wpAnyH_take (i := 8) (oi := { dst := some 89, op := Op.binOp BinOp.neq 9 (Operand.tmp 84) (Operand.tmp 88) 9, type := 4, pos := "law.go:75", after := #[{ on := 3, ground := Ground.data }, { on := 7, ground := Ground.data }], guard := none }) (v := (.bool false)) rfl (by kernel_rfl) (by kernel_rfl) (by kernel_rfl) (fun _ _ _ h => h) (Or.inl ⟨by kernel_rfl, fun w9 hS9 => ?_⟩) hH ?_
            · obtain ⟨s0, s1, s2⟩ := hS9
              go_simp
            try simp only [Act.put, List.setIfInBounds_toArray, List.set_cons_zero, List.set_cons_succ]
            refine wpAnyH_take (i := 9) (oi := { dst := some 90, op := Op.move (Operand.tmp 89), type := 4, pos := "law.go:75", after := #[{ on := 8, ground := Ground.data }, { on := 3, ground := Ground.chain }], guard := none }) (v := (.bool false)) rfl (by kernel_rfl) (by kernel_rfl) (by kernel_rfl) (fun _ _ _ h => h) (Or.inl ⟨by kernel_rfl, fun w9 hS9 => ?_⟩) hH ?_
            · kernel_rfl
            try simp only [Act.put, List.setIfInBounds_toArray, List.set_cons_zero, List.set_cons_succ]
            refine wpAnyH_take (i := 10) (oi := { dst := some 91, op := Op.move (Operand.tmp 11), type := 4, pos := "law.go:75", after := #[{ on := 9, ground := Ground.guard }], guard := some (9, false) }) (v := (.bool true)) rfl (by kernel_rfl) (by kernel_rfl) (by kernel_rfl) (fun _ _ _ h => h) (Or.inl ⟨by kernel_rfl, fun w9 hS9 => ?_⟩) hH ?_
            · kernel_rfl
            try simp only [Act.put, List.setIfInBounds_toArray, List.set_cons_zero, List.set_cons_succ]
            refine wpAnyH_take (i := 11) (oi := { dst := some 92, op := Op.unOp UnOp.not 4 (Operand.tmp 91), type := 4, pos := "law.go:75", after := #[{ on := 10, ground := Ground.data }, { on := 9, ground := Ground.guard }], guard := some (9, false) }) (v := (.bool false)) rfl (by kernel_rfl) (by kernel_rfl) (by kernel_rfl) (fun _ _ _ h => h) (Or.inl ⟨by kernel_rfl, fun w9 hS9 => ?_⟩) hH ?_
            · kernel_rfl
            try simp only [Act.put, List.setIfInBounds_toArray, List.set_cons_zero, List.set_cons_succ]
            refine wpAnyH_take (i := 12) (oi := { dst := some 93, op := Op.pick (Operand.tmp 90) (Operand.const (Value.bool true)) (Operand.tmp 92), type := 4, pos := "law.go:75", after := #[{ on := 9, ground := Ground.data }, { on := 11, ground := Ground.data }], guard := none }) (v := (.bool false)) rfl (by kernel_rfl) (by kernel_rfl) (by kernel_rfl) (fun _ _ _ h => h) (Or.inl ⟨by kernel_rfl, fun w9 hS9 => ?_⟩) hH ?_
            · kernel_rfl
            try simp only [Act.put, List.setIfInBounds_toArray, List.set_cons_zero, List.set_cons_succ]
            refine wpAnyH_take (i := 13) (oi := { dst := some 94, op := Op.move (Operand.tmp 93), type := 4, pos := "law.go:75", after := #[{ on := 12, ground := Ground.data }, { on := 9, ground := Ground.chain }], guard := none }) (v := (.bool false)) rfl (by kernel_rfl) (by kernel_rfl) (by kernel_rfl) (fun _ _ _ h => h) (Or.inl ⟨by kernel_rfl, fun w9 hS9 => ?_⟩) hH ?_
            · kernel_rfl
            try simp only [Act.put, List.setIfInBounds_toArray, List.set_cons_zero, List.set_cons_succ]
            refine wpAnyH_take (i := 14) (oi := { dst := some 95, op := Op.move (Operand.tmp 10), type := 3, pos := "law.go:75", after := #[{ on := 13, ground := Ground.guard }], guard := some (13, false) }) (v := (.int .i64 ((i : Int) + 1))) rfl (by kernel_rfl) (by kernel_rfl) (by kernel_rfl) (fun _ _ _ h => h) (Or.inl ⟨by kernel_rfl, fun w9 hS9 => ?_⟩) hH ?_
            · kernel_rfl
            try simp only [Act.put, List.setIfInBounds_toArray, List.set_cons_zero, List.set_cons_succ]
            refine wpAnyH_take (i := 15) (oi := { dst := some 96, op := Op.move (Operand.tmp 9), type := 3, pos := "law.go:75", after := #[{ on := 13, ground := Ground.guard }], guard := some (13, false) }) (v := (.int .i64 i)) rfl (by kernel_rfl) (by kernel_rfl) (by kernel_rfl) (fun _ _ _ h => h) (Or.inl ⟨by kernel_rfl, fun w9 hS9 => ?_⟩) hH ?_
            · kernel_rfl
            try simp only [Act.put, List.setIfInBounds_toArray, List.set_cons_zero, List.set_cons_succ]
            refine wpAnyH_take (i := 16) (oi := { dst := some 97, op := Op.binOp BinOp.add 3 (Operand.tmp 96) (Operand.const (Value.int IntKind.i64 1)) 3, type := 3, pos := "law.go:75", after := #[{ on := 15, ground := Ground.data }, { on := 13, ground := Ground.guard }], guard := some (13, false) }) (v := (.int .i64 ((i : Int) + 1))) rfl (by kernel_rfl) (by kernel_rfl) (by kernel_rfl) (fun _ _ _ h => h) (Or.inl ⟨by kernel_rfl, fun w9 hS9 => ?_⟩) hH ?_
            · obtain ⟨s0, s1, s2⟩ := hS9
              go_simp
            try simp only [Act.put, List.setIfInBounds_toArray, List.set_cons_zero, List.set_cons_succ]
            refine wpAnyH_take (i := 17) (oi := { dst := some 98, op := Op.binOp BinOp.neq 3 (Operand.tmp 95) (Operand.tmp 97) 3, type := 4, pos := "law.go:75", after := #[{ on := 14, ground := Ground.data }, { on := 16, ground := Ground.data }, { on := 13, ground := Ground.guard }], guard := some (13, false) }) (v := (.bool false)) rfl (by kernel_rfl) (by kernel_rfl) (by kernel_rfl) (fun _ _ _ h => h) (Or.inl ⟨by kernel_rfl, fun w9 hS9 => ?_⟩) hH ?_
            · obtain ⟨s0, s1, s2⟩ := hS9
              go_simp
            try simp only [Act.put, List.setIfInBounds_toArray, List.set_cons_zero, List.set_cons_succ]
            refine wpAnyH_take (i := 18) (oi := { dst := some 99, op := Op.pick (Operand.tmp 94) (Operand.const (Value.bool true)) (Operand.tmp 98), type := 4, pos := "law.go:75", after := #[{ on := 13, ground := Ground.data }, { on := 17, ground := Ground.data }], guard := none }) (v := (.bool false)) rfl (by kernel_rfl) (by kernel_rfl) (by kernel_rfl) (fun _ _ _ h => h) (Or.inl ⟨by kernel_rfl, fun w9 hS9 => ?_⟩) hH ?_
            · kernel_rfl
            try simp only [Act.put, List.setIfInBounds_toArray, List.set_cons_zero, List.set_cons_succ]
            refine wpAnyH_take (i := 19) (oi := { dst := some 100, op := Op.move (Operand.tmp 99), type := 4, pos := "law.go:75", after := #[{ on := 18, ground := Ground.data }, { on := 13, ground := Ground.chain }], guard := none }) (v := (.bool false)) rfl (by kernel_rfl) (by kernel_rfl) (by kernel_rfl) (fun _ _ _ h => h) (Or.inl ⟨by kernel_rfl, fun w9 hS9 => ?_⟩) hH ?_
            · kernel_rfl
            try simp only [Act.put, List.setIfInBounds_toArray, List.set_cons_zero, List.set_cons_succ]
            refine wpAnyH_take (i := 20) (oi := { dst := some 101, op := Op.move (Operand.tmp 3), type := 28, pos := "law.go:75", after := #[{ on := 19, ground := Ground.guard }], guard := some (19, false) }) (v := (.slice (some ⟨g1, 0, none⟩) (m + 1) c)) rfl (by kernel_rfl) (by kernel_rfl) (by kernel_rfl) (fun _ _ _ h => h) (Or.inl ⟨by kernel_rfl, fun w9 hS9 => ?_⟩) hH ?_
            · kernel_rfl
            try simp only [Act.put, List.setIfInBounds_toArray, List.set_cons_zero, List.set_cons_succ]
            refine wpAnyH_take (i := 21) (oi := { dst := some 102, op := Op.move (Operand.tmp 9), type := 3, pos := "law.go:75", after := #[{ on := 19, ground := Ground.guard }], guard := some (19, false) }) (v := (.int .i64 i)) rfl (by kernel_rfl) (by kernel_rfl) (by kernel_rfl) (fun _ _ _ h => h) (Or.inl ⟨by kernel_rfl, fun w9 hS9 => ?_⟩) hH ?_
            · kernel_rfl
            try simp only [Act.put, List.setIfInBounds_toArray, List.set_cons_zero, List.set_cons_succ]
            refine wpAnyH_take (i := 22) (oi := { dst := some 103, op := Op.binOp BinOp.add 3 (Operand.tmp 102) (Operand.const (Value.int IntKind.i64 1)) 3, type := 3, pos := "law.go:75", after := #[{ on := 21, ground := Ground.data }, { on := 19, ground := Ground.guard }], guard := some (19, false) }) (v := (.int .i64 ((i : Int) + 1))) rfl (by kernel_rfl) (by kernel_rfl) (by kernel_rfl) (fun _ _ _ h => h) (Or.inl ⟨by kernel_rfl, fun w9 hS9 => ?_⟩) hH ?_
            · obtain ⟨s0, s1, s2⟩ := hS9
              go_simp
            try simp only [Act.put, List.setIfInBounds_toArray, List.set_cons_zero, List.set_cons_succ]
            refine wpAnyH_take (i := 23) (oi := { dst := some 104, op := Op.move (Operand.tmp 9), type := 3, pos := "law.go:75", after := #[{ on := 19, ground := Ground.guard }], guard := some (19, false) }) (v := (.int .i64 i)) rfl (by kernel_rfl) (by kernel_rfl) (by kernel_rfl) (fun _ _ _ h => h) (Or.inl ⟨by kernel_rfl, fun w9 hS9 => ?_⟩) hH ?_
            · kernel_rfl
            try simp only [Act.put, List.setIfInBounds_toArray, List.set_cons_zero, List.set_cons_succ]
            refine wpAnyH_take (i := 24) (oi := { dst := some 105, op := Op.binOp BinOp.add 3 (Operand.tmp 104) (Operand.const (Value.int IntKind.i64 1)) 3, type := 3, pos := "law.go:75", after := #[{ on := 23, ground := Ground.data }, { on := 19, ground := Ground.guard }], guard := some (19, false) }) (v := (.int .i64 ((i : Int) + 1))) rfl (by kernel_rfl) (by kernel_rfl) (by kernel_rfl) (fun _ _ _ h => h) (Or.inl ⟨by kernel_rfl, fun w9 hS9 => ?_⟩) hH ?_
            · obtain ⟨s0, s1, s2⟩ := hS9
              go_simp
            try simp only [Act.put, List.setIfInBounds_toArray, List.set_cons_zero, List.set_cons_succ]
            refine wpAnyH_ready (rs := [25]) (by kernel_rfl) (by simp) ?_
            refine AllReadyH.cons (o := { dst := some 106, op := Op.call { callee := Callee.value (Operand.func 13), args := #[Operand.tmp 101, Operand.tmp 103, Operand.tmp 105], argTypes := #[28, 3, 3] }, type := 4, pos := "law.go:75", after := #[{ on := 20, ground := Ground.data }, { on := 22, ground := Ground.data }, { on := 24, ground := Ground.data }, { on := 19, ground := Ground.chain }, { on := 19, ground := Ground.guard }], guard := some (19, false) }) rfl (fun K hK => ?_) AllReadyH.nil
            go_simp
            go_at_call 13
            refine (HU1.out _ : Calls _ _ _ _ _).mono ?_
            rintro e w5 ⟨rfl, hw5⟩
            refine hK.out _ _ (l2_below hH hw5) (fun hH2 => ?_)
            clear hK K hH hw5
            have hH := hH2
            clear hH2
            try simp only [Act.put, List.setIfInBounds_toArray, List.set_cons_zero, List.set_cons_succ]
            refine wpAnyH_take (i := 26) (oi := { dst := some 107, op := Op.unOp UnOp.not 4 (Operand.tmp 106), type := 4, pos := "law.go:75", after := #[{ on := 25, ground := Ground.data }, { on := 19, ground := Ground.guard }], guard := some (19, false) }) (v := (.bool false)) rfl (by kernel_rfl) (by kernel_rfl) (by kernel_rfl) (fun _ _ _ h => h) (Or.inl ⟨by kernel_rfl, fun w9 hS9 => ?_⟩) hH ?_
            · kernel_rfl
            try simp only [Act.put, List.setIfInBounds_toArray, List.set_cons_zero, List.set_cons_succ]
            refine wpAnyH_take (i := 27) (oi := { dst := some 108, op := Op.pick (Operand.tmp 100) (Operand.const (Value.bool true)) (Operand.tmp 107), type := 4, pos := "law.go:75", after := #[{ on := 19, ground := Ground.data }, { on := 26, ground := Ground.data }], guard := none }) (v := (.bool false)) rfl (by kernel_rfl) (by kernel_rfl) (by kernel_rfl) (fun _ _ _ h => h) (Or.inl ⟨by kernel_rfl, fun w9 hS9 => ?_⟩) hH ?_
            · kernel_rfl
            try simp only [Act.put, List.setIfInBounds_toArray, List.set_cons_zero, List.set_cons_succ]
            refine wpAnyH_take (i := 28) (oi := { dst := some 109, op := Op.move (Operand.tmp 108), type := 4, pos := "law.go:75", after := #[{ on := 27, ground := Ground.data }, { on := 25, ground := Ground.chain }], guard := none }) (v := (.bool false)) rfl (by kernel_rfl) (by kernel_rfl) (by kernel_rfl) (fun _ _ _ h => h) (Or.inl ⟨by kernel_rfl, fun w9 hS9 => ?_⟩) hH ?_
            · kernel_rfl
            try simp only [Act.put, List.setIfInBounds_toArray, List.set_cons_zero, List.set_cons_succ]
            refine wpAnyH_take (i := 29) (oi := { dst := some 110, op := Op.move (Operand.tmp 3), type := 28, pos := "law.go:75", after := #[{ on := 28, ground := Ground.guard }], guard := some (28, false) }) (v := (.slice (some ⟨g1, 0, none⟩) (m + 1) c)) rfl (by kernel_rfl) (by kernel_rfl) (by kernel_rfl) (fun _ _ _ h => h) (Or.inl ⟨by kernel_rfl, fun w9 hS9 => ?_⟩) hH ?_
            · kernel_rfl
            try simp only [Act.put, List.setIfInBounds_toArray, List.set_cons_zero, List.set_cons_succ]
            refine wpAnyH_take (i := 30) (oi := { dst := some 111, op := Op.move (Operand.tmp 9), type := 3, pos := "law.go:75", after := #[{ on := 28, ground := Ground.guard }], guard := some (28, false) }) (v := (.int .i64 i)) rfl (by kernel_rfl) (by kernel_rfl) (by kernel_rfl) (fun _ _ _ h => h) (Or.inl ⟨by kernel_rfl, fun w9 hS9 => ?_⟩) hH ?_
            · kernel_rfl
            try simp only [Act.put, List.setIfInBounds_toArray, List.set_cons_zero, List.set_cons_succ]
            refine wpAnyH_take (i := 31) (oi := { dst := some 112, op := Op.indexAddr 28 (Operand.tmp 110) (Operand.tmp 111), type := 0, pos := "law.go:75", after := #[{ on := 29, ground := Ground.data }, { on := 30, ground := Ground.data }, { on := 28, ground := Ground.guard }], guard := some (28, false) }) (v := (.pointer (some ⟨g1, i * 6, none⟩))) rfl (by kernel_rfl) (by kernel_rfl) (by kernel_rfl) (fun _ _ _ h => h) (Or.inl ⟨by kernel_rfl, fun w9 hS9 => ?_⟩) hH ?_
            · obtain ⟨s0, s1, s2⟩ := hS9
              go_simp
            try simp only [Act.put, List.setIfInBounds_toArray, List.set_cons_zero, List.set_cons_succ]
            refine wpAnyH_take (i := 32) (oi := { dst := some 113, op := Op.fieldAddr 27 (Operand.tmp 112) 2, type := 0, pos := "law.go:75", after := #[{ on := 31, ground := Ground.data }, { on := 28, ground := Ground.guard }], guard := some (28, false) }) (v := (.pointer (some ⟨g1, i * 6 + 2, none⟩))) rfl (by kernel_rfl) (by kernel_rfl) (by kernel_rfl) (fun _ _ _ h => h) (Or.inl ⟨by kernel_rfl, fun w9 hS9 => ?_⟩) hH ?_
            · obtain ⟨s0, s1, s2⟩ := hS9
              go_simp
            try simp only [Act.put, List.setIfInBounds_toArray, List.set_cons_zero, List.set_cons_succ]
            refine wpAnyH_take (i := 33) (oi := { dst := some 114, op := Op.load 3 (Operand.tmp 113), type := 3, pos := "law.go:75", after := #[{ on := 32, ground := Ground.data }, { on := 28, ground := Ground.guard }], guard := some (28, false) }) (v := (.int .i64 p)) rfl (by kernel_rfl) (by kernel_rfl) (by kernel_rfl) (fun _ _ _ h => h) (Or.inl ⟨by kernel_rfl, fun w9 hS9 => ?_⟩) hH ?_
            · obtain ⟨s0, s1, s2⟩ := hS9
              go_simp
            try simp only [Act.put, List.setIfInBounds_toArray, List.set_cons_zero, List.set_cons_succ]
            refine wpAnyH_take (i := 34) (oi := { dst := some 115, op := Op.binOp BinOp.gtr 3 (Operand.tmp 114) (Operand.const (Value.int IntKind.i64 0)) 3, type := 4, pos := "law.go:75", after := #[{ on := 33, ground := Ground.data }, { on := 28, ground := Ground.guard }], guard := some (28, false) }) (v := (.bool false)) rfl (by kernel_rfl) (by kernel_rfl) (by kernel_rfl) (fun _ _ _ h => h) (Or.inl ⟨by kernel_rfl, fun w9 hS9 => ?_⟩) hH ?_
            · obtain ⟨s0, s1, s2⟩ := hS9
              go_simp
              try omega
            try simp only [Act.put, List.setIfInBounds_toArray, List.set_cons_zero, List.set_cons_succ]
            refine wpAnyH_take (i := 35) (oi := { dst := some 116, op := Op.move (Operand.tmp 115), type := 4, pos := "law.go:75", after := #[{ on := 34, ground := Ground.data }, { on := 28, ground := Ground.chain }, { on := 28, ground := Ground.guard }], guard := some (28, false) }) (v := (.bool false)) rfl (by kernel_rfl) (by kernel_rfl) (by kernel_rfl) (fun _ _ _ h => h) (Or.inl ⟨by kernel_rfl, fun w9 hS9 => ?_⟩) hH ?_
            · kernel_rfl
            try simp only [Act.put, List.setIfInBounds_toArray, List.set_cons_zero, List.set_cons_succ]
            refine wpAnyH_take (i := 36) (oi := { dst := some 117, op := Op.move (Operand.tmp 3), type := 28, pos := "law.go:75", after := #[{ on := 35, ground := Ground.guard }], guard := some (35, true) }) (v := undef) rfl (by kernel_rfl) (by kernel_rfl) (by kernel_rfl) (fun _ _ _ h => h) (Or.inr ⟨by kernel_rfl, rfl⟩) hH ?_
            try simp only [Act.put, List.setIfInBounds_toArray, List.set_cons_zero, List.set_cons_succ]
            refine wpAnyH_take (i := 37) (oi := { dst := some 118, op := Op.move (Operand.tmp 9), type := 3, pos := "law.go:75", after := #[{ on := 35, ground := Ground.guard }], guard := some (35, true) }) (v := undef) rfl (by kernel_rfl) (by kernel_rfl) (by kernel_rfl) (fun _ _ _ h => h) (Or.inr ⟨by kernel_rfl, rfl⟩) hH ?_
            try simp only [Act.put, List.setIfInBounds_toArray, List.set_cons_zero, List.set_cons_succ]
            refine wpAnyH_take (i := 38) (oi := { dst := some 119, op := Op.binOp BinOp.add 3 (Operand.tmp 118) (Operand.const (Value.int IntKind.i64 1)) 3, type := 3, pos := "law.go:75", after := #[{ on := 37, ground := Ground.data }, { on := 35, ground := Ground.guard }], guard := some (35, true) }) (v := undef) rfl (by kernel_rfl) (by kernel_rfl) (by kernel_rfl) (fun _ _ _ h => h) (Or.inr ⟨by kernel_rfl, rfl⟩) hH ?_
            try simp only [Act.put, List.setIfInBounds_toArray, List.set_cons_zero, List.set_cons_succ]
            refine wpAnyH_take (i := 39) (oi := { dst := some 120, op := Op.move (Operand.tmp 3), type := 28, pos := "law.go:75", after := #[{ on := 35, ground := Ground.guard }], guard := some (35, true) }) (v := undef) rfl (by kernel_rfl) (by kernel_rfl) (by kernel_rfl) (fun _ _ _ h => h) (Or.inr ⟨by kernel_rfl, rfl⟩) hH ?_
            try simp only [Act.put, List.setIfInBounds_toArray, List.set_cons_zero, List.set_cons_succ]
            refine wpAnyH_take (i := 40) (oi := { dst := some 121, op := Op.move (Operand.tmp 9), type := 3, pos := "law.go:75", after := #[{ on := 35, ground := Ground.guard }], guard := some (35, true) }) (v := undef) rfl (by kernel_rfl) (by kernel_rfl) (by kernel_rfl) (fun _ _ _ h => h) (Or.inr ⟨by kernel_rfl, rfl⟩) hH ?_
            try simp only [Act.put, List.setIfInBounds_toArray, List.set_cons_zero, List.set_cons_succ]
            refine wpAnyH_take (i := 41) (oi := { dst := some 122, op := Op.indexAddr 28 (Operand.tmp 120) (Operand.tmp 121), type := 0, pos := "law.go:75", after := #[{ on := 39, ground := Ground.data }, { on := 40, ground := Ground.data }, { on := 35, ground := Ground.guard }], guard := some (35, true) }) (v := undef) rfl (by kernel_rfl) (by kernel_rfl) (by kernel_rfl) (fun _ _ _ h => h) (Or.inr ⟨by kernel_rfl, rfl⟩) hH ?_
            try simp only [Act.put, List.setIfInBounds_toArray, List.set_cons_zero, List.set_cons_succ]
            refine wpAnyH_take (i := 42) (oi := { dst := some 123, op := Op.fieldAddr 27 (Operand.tmp 122) 2, type := 0, pos := "law.go:75", after := #[{ on := 41, ground := Ground.data }, { on := 35, ground := Ground.guard }], guard := some (35, true) }) (v := undef) rfl (by kernel_rfl) (by kernel_rfl) (by kernel_rfl) (fun _ _ _ h => h) (Or.inr ⟨by kernel_rfl, rfl⟩) hH ?_
            try simp only [Act.put, List.setIfInBounds_toArray, List.set_cons_zero, List.set_cons_succ]
            refine wpAnyH_take (i := 43) (oi := { dst := some 124, op := Op.load 3 (Operand.tmp 123), type := 3, pos := "law.go:75", after := #[{ on := 42, ground := Ground.data }, { on := 35, ground := Ground.guard }], guard := some (35, true) }) (v := undef) rfl (by kernel_rfl) (by kernel_rfl) (by kernel_rfl) (fun _ _ _ h => h) (Or.inr ⟨by kernel_rfl, rfl⟩) hH ?_
            try simp only [Act.put, List.setIfInBounds_toArray, List.set_cons_zero, List.set_cons_succ]
            refine wpAnyH_take (i := 44) (oi := { dst := some 125, op := Op.call { callee := Callee.value (Operand.func 13), args := #[Operand.tmp 117, Operand.tmp 119, Operand.tmp 124], argTypes := #[28, 3, 3] }, type := 4, pos := "law.go:75", after := #[{ on := 36, ground := Ground.data }, { on := 38, ground := Ground.data }, { on := 43, ground := Ground.data }, { on := 35, ground := Ground.chain }, { on := 35, ground := Ground.guard }], guard := some (35, true) }) (v := undef) rfl (by kernel_rfl) (by kernel_rfl) (by kernel_rfl) (fun _ _ _ h => h) (Or.inr ⟨by kernel_rfl, rfl⟩) hH ?_
            try simp only [Act.put, List.setIfInBounds_toArray, List.set_cons_zero, List.set_cons_succ]
            refine wpAnyH_take (i := 45) (oi := { dst := some 126, op := Op.unOp UnOp.not 4 (Operand.tmp 125), type := 4, pos := "law.go:75", after := #[{ on := 44, ground := Ground.data }, { on := 35, ground := Ground.guard }], guard := some (35, true) }) (v := undef) rfl (by kernel_rfl) (by kernel_rfl) (by kernel_rfl) (fun _ _ _ h => h) (Or.inr ⟨by kernel_rfl, rfl⟩) hH ?_
            try simp only [Act.put, List.setIfInBounds_toArray, List.set_cons_zero, List.set_cons_succ]
            refine wpAnyH_take (i := 46) (oi := { dst := some 127, op := Op.pick (Operand.tmp 116) (Operand.tmp 126) (Operand.const (Value.bool false)), type := 4, pos := "law.go:75", after := #[{ on := 35, ground := Ground.data }, { on := 45, ground := Ground.data }, { on := 28, ground := Ground.guard }], guard := some (28, false) }) (v := (.bool false)) rfl (by kernel_rfl) (by kernel_rfl) (by kernel_rfl) (fun _ _ _ h => h) (Or.inl ⟨by kernel_rfl, fun w9 hS9 => ?_⟩) hH ?_
            · kernel_rfl
            try simp only [Act.put, List.setIfInBounds_toArray, List.set_cons_zero, List.set_cons_succ]
            refine wpAnyH_take (i := 47) (oi := { dst := some 128, op := Op.pick (Operand.tmp 109) (Operand.const (Value.bool true)) (Operand.tmp 127), type := 4, pos := "law.go:75", after := #[{ on := 28, ground := Ground.data }, { on := 46, ground := Ground.data }], guard := none }) (v := (.bool false)) rfl (by kernel_rfl) (by kernel_rfl) (by kernel_rfl) (fun _ _ _ h => h) (Or.inl ⟨by kernel_rfl, fun w9 hS9 => ?_⟩) hH ?_
            · kernel_rfl
            try simp only [Act.put, List.setIfInBounds_toArray, List.set_cons_zero, List.set_cons_succ]
            refine wpAnyH_done (by kernel_rfl) ?_ _
            have HH := Lib.hid hH.2.2
            clear hH
            go_wp2_with fail
            exact ⟨⟨i + 1, by omega, by simp, HH⟩, by simp [intOf]; omega⟩
          · have HPAR : Hid (b.par = (j : Int) + 1) := by show _ = _; rw [← hpp]; exact hp
            have hn0 : (0 : Int) < p := by omega
            have HN1 : Hid (decide ((0 : Int) < p) = true) := by show _ = _; simp; omega
            have HPJ := Lib.hid hp
            clear hp hpp
            have HPA : Hid (∀ w', L2 W ⟨g2, i, none⟩ ⟨g1, i * 6 + 2, none⟩ (.string T) (.int .i64 p) w' → Calls Try.prog 12 #[.slice (some ⟨g1, 0, none⟩) (m + 1) c, .int .i64 ((i : Int) + 1)] w' fun e w'' => e = .returned (.string T) ∧ Below w'.heap.size w' w'') := fun w' h => HP0.out w' h.2.2
            have HU1 : Hid (∀ w', Calls Try.prog 13 #[.slice (some ⟨g1, 0, none⟩) (m + 1) c, .int .i64 ((i : Int) + 1), .int .i64 ((i : Int) + 1)] w' fun e w'' => e = .returned (.bool true) ∧ Below w'.heap.size w' w'') := fun w' => under_self _ _ _ _ w' (by omega)
            have HU2 : Hid (∀ w', L2 W ⟨g2, i, none⟩ ⟨g1, i * 6 + 2, none⟩ (.string T) (.int .i64 p) w' → Calls Try.prog 13 #[.slice (some ⟨g1, 0, none⟩) (m + 1) c, .int .i64 ((i : Int) + 1), .int .i64 p] w' fun e w'' => e = .returned (.bool true) ∧ Below w'.heap.size w' w'') := fun w' h => by rw [HPJ.out]; exact under_par l (pathAt ps) _ _ c i j b w' HLM.out.symm (HBX.out.below h.2.2) (good_made HGD.out) HB.out HPAR.out hji
            have HLS : Hid (L2 W ⟨g2, i, none⟩ ⟨g1, i * 6 + 2, none⟩ (.string T) (.int .i64 p) w2) := ⟨k1, k2, hb2.out⟩
            clear HP0
            go_wp2_with fail
            refine (HFD.out : Calls _ _ _ _ _).mono ?_; rintro e w3 ⟨rfl, hw3⟩
            have HLS3 := Lib.hid (l2_below HLS.out hw3)
            clear HLS hw3 HFD k1 k2
            go_wp2_with fail
            have hn1 := HN1.out
            clear hn0
            go_region_held3 (fun w' => w'.cell? ⟨g2, i, none⟩ = some (.string T) ∧ w'.cell? ⟨g1, i * 6 + 2, none⟩ = some (.int .i64 p) ∧ Below W.heap.size W w') (first | assumption | exact l2_drew HLS3.out | exact l2_below (by assumption) (by assumption)) (first
              | (go_at_call 12; refine (HPA.out _ (by first | assumption | exact l2_below (by assumption) (by assumption))).mono ?_; rintro e w5 ⟨rfl, hw5⟩)
              | (go_at_call 13; (with_reducible refine (HU1.out _ : Calls _ _ _ _ _).mono ?_); rintro e w5 ⟨rfl, hw5⟩)
              | (go_at_call 13; (refine (HU2.out _ (by first | assumption | exact l2_below (by assumption) (by assumption))).mono ?_); rintro e w5 ⟨rfl, hw5⟩))
            all_goals
              go_wp2_with fail
              exact ⟨⟨i + 1, by omega, by simp, (show L2 W ⟨g2, i, none⟩ ⟨g1, i * 6 + 2, none⟩ (.string T) (.int .i64 p) _ by assumption).2.2⟩, by simp [intOf]; omega⟩
        · obtain rfl : i = m + 1 := by omega
          have HFD := Lib.hid (found_in w2 l ps (some ⟨g1, 0, none⟩) (m + 1) c HLM.out.symm (HBX.out.below hb2.out) HGD.out)
          unfold FoundIs at HFD
          have hWw := HWR.out.trans (hb2.out.mono HWR.out.size)
          have HWW := Lib.hid hWw
          clear HWR HB0 hb2 HPC HBX hWw
          go_wp2_with fail
          refine (HFD.out : Calls _ _ _ _ _).mono ?_; rintro e w3 ⟨rfl, hw3⟩
          have hW3 := nextB HWW.out hw3
          clear HFD hw3
          go_wp2_with fail
          refine (awake16_any _).mono ?_; rintro e w4 ⟨rfl, hw4⟩
          have hW4 := nextB hW3 hw4
          go_wp2_with fail
          go_ret
          exact ⟨rfl, hW4⟩
end Go.Proofs.Ytlmelclfdafhbaa
