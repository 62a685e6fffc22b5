/- TreeRounds: its walk. -/
import Derived.Test.YtlmelclfdafhbaaTreeB2
import Derived.Test.YtlmelclfdafhbaaTreeA
namespace Go.Proofs.Ytlmelclfdafhbaa
open Go.RowKit Go.PlainAid
set_option linter.unusedVariables false
set_option linter.unusedSimpArgs false
def cellsB (b : Bx) : List Value := [.int .i64 b.id, .string b.name, .int .i64 b.par, .int .i64 0, .int .i64 0, .int .i64 0]
theorem flat_at : ∀ (l : List Bx) (i j : Nat) (b : Bx), l[i]? = some b → j < 6 → (l.flatMap cellsB)[i * 6 + j]? = (cellsB b)[j]?
  | [], i, j, b, h, hj => by simp at h
  | x :: l, 0, j, b, h, hj => by
    simp at h; subst h
    rw [List.flatMap_cons, Nat.zero_mul, Nat.zero_add, List.getElem?_append_left (by simpa [cellsB] using hj)]
  | x :: l, i + 1, j, b, h, hj => by
    rw [List.flatMap_cons, List.getElem?_append_right (by simp [cellsB]; omega), show (i + 1) * 6 + j - (cellsB x).length = i * 6 + j by simp [cellsB]; omega]
    exact flat_at l i j b (by simpa using h) hj
theorem boxInfo : (Try.prog.info? 27).map (fun i => (i.zero, i.size, i.bytes)) = some (some (.agg #[.int .i64 0, .string ⟨#[]⟩, .int .i64 0, .int .i64 0, .int .i64 0, .int .i64 0]), 6, 56) := by kernel_rfl
theorem wpList_pushBox (w : World) {ops : Array Oper} {rest : List Oper} {o : Oper} {a : Act} {Q : Exit → Act → World → Prop} (hgd : o.guard = none) (s x : Operand)
    (ho : o.op = .call { callee := .builtin .append, args := #[s, x], argTypes := #[28, 28] })
    (B : Nat) (v : Value) (n : Nat) (xs : List Value) (hs : a.eval s = v) (hown : w.ownsRow B 27 6 v n xs) (b : Bx)
    (hx : a.eval x = .slice (some ⟨w.heap.size, 0, none⟩) 1 1)
    (hlim : n + 1 ≤ 1000000000) (hB : B ≤ w.heap.size)
    (h : ∀ v' w', w'.ownsRow B 27 6 v' (n + 1) (xs ++ cellsB b) → Below B w w' → wpList Try.prog ops Q rest (a.put o.dst v') w') :
    wpList Try.prog ops Q (o :: rest) a (w.alloc (.cells #[.int .i64 b.id, .string b.name, .int .i64 b.par, .int .i64 0, .int .i64 0, .int .i64 0] 27)) := by
  obtain ⟨i0, hi0, hz0, hz1, hz2⟩ := info_parts boxInfo
  have hr : Reads (w.alloc (.cells #[.int .i64 b.id, .string b.name, .int .i64 b.par, .int .i64 0, .int .i64 0, .int .i64 0] 27)) (w.heap.size + 1) 6 (some ⟨w.heap.size, 0, none⟩) 1 (cellsB b) := by
    refine ⟨rfl, fun _ => ⟨_, rfl, by simp, fun j u hj => ?_⟩⟩
    have e : (⟨w.heap.size, 0, none⟩ : Addr).add j = ⟨w.heap.size, j, none⟩ := by unfold Addr.add; split <;> simp_all
    rw [e, World.cell?_alloc_mark]
    simpa [cellsB] using hj
  refine wpList_plain hgd fun K hK => ?_
  obtain ⟨v', w', h1, h2, h3, h4⟩ := run_append_any (P := Try.prog) _ B 28 o.type 27 i0 _ 6 56 Try.underlying28 hi0 hz0 hz1 hz2 rfl (by omega) v n _ (World.ownsRow.alloc hown _) (w.heap.size + 1) _ 1 1 _ hr
    (fun u hu => by simp [cellsB] at hu; rcases hu with rfl | rfl | rfl | rfl <;> rfl) (by simp only [maxLen]; omega) (by omega) (by simp; omega)
  unfold Oper.wp execOp
  simp only [ho, resolve, invoke, builtin, Sem.run_bind, Sem.run_pure, Result.andThen_ok, List.map_toArray, List.map_cons, List.map_nil, hs, hx, h1]
  refine hK _ _ (h v' w' h2 ?_)
  exact ((Below.refl B w).alloc hB _).grown h3 (by simp; omega) (fun g hg => (own_lt hown hg).1)
def bxs (m : Nat) : List Bx := (List.range m).map fun (i : Nat) => ⟨(i : Int) + 1, ⟨#[120]⟩, (i : Int) + 1 + 1⟩
theorem bxs_succ (m : Nat) : (bxs (m + 1)).flatMap cellsB = (bxs m).flatMap cellsB ++ cellsB ⟨(m : Int) + 1, ⟨#[120]⟩, (m : Int) + 1 + 1⟩ := by
  unfold bxs
  rw [List.range_succ, List.map_append, List.flatMap_append]
  simp
def bxr (M : Nat) (p : Int) : List Bx := (List.range (M + 1)).map fun (i : Nat) => ⟨(i : Int) + 1, ⟨#[120]⟩, if i = M then p else (i : Int) + 1 + 1⟩
theorem bxr_len (M : Nat) (p : Int) : (bxr M p).length = M + 1 := by unfold bxr; simp
theorem bxr_par (M : Nat) (p : Int) (hp : 1 ≤ p) : ∀ b ∈ bxr M p, 1 ≤ b.par := by
  intro b hb
  unfold bxr at hb
  obtain ⟨i, _, rfl⟩ := List.mem_map.1 hb
  simp only
  split <;> omega
theorem bxr_at (w : World) (g M : Nat) (p : Int) (cur : Array Value) (hb : Blk w g 27 cur) (ht : cur.toList.take ((M + 1) * 6) = (bxs (M + 1)).flatMap cellsB) :
    BoxAt (w.setCell ⟨g, M * 6 + 2, none⟩ (.int .i64 p)) (some ⟨g, 0, none⟩) (bxr M p) := by
  intro i b hi
  have hb2 := hb.set_ (M * 6 + 2) (.int .i64 p)
  have hil : i < M + 1 := by have := (List.getElem?_eq_some_iff.1 hi).1; rwa [bxr_len] at this
  have hbe : b = ⟨(i : Int) + 1, ⟨#[120]⟩, if i = M then p else (i : Int) + 1 + 1⟩ := by
    unfold bxr at hi
    rw [List.getElem?_map, List.getElem?_range hil] at hi
    injection hi with hi
    exact hi.symm
  have hbs : (bxs (M + 1))[i]? = some ⟨(i : Int) + 1, ⟨#[120]⟩, (i : Int) + 1 + 1⟩ := by
    unfold bxs
    rw [List.getElem?_map, List.getElem?_range hil]
    rfl
  have hcur : ∀ j, j < 6 → cur[i * 6 + j]? = (cellsB ⟨(i : Int) + 1, ⟨#[120]⟩, (i : Int) + 1 + 1⟩)[j]? := fun j hj => by
    rw [← flat_at _ i j _ hbs hj, ← ht, List.getElem?_take, if_pos (by omega)]
    simp
  have hsz : ∀ j, j < 6 → i * 6 + j < cur.size := fun j hj => by
    have h1 := hcur j hj
    rcases Nat.lt_or_ge (i * 6 + j) cur.size with h | h
    · exact h
    · rw [Array.getElem?_eq_none h] at h1
      have : j < (cellsB ⟨(i : Int) + 1, ⟨#[120]⟩, (i : Int) + 1 + 1⟩).length := hj
      rw [List.getElem?_eq_getElem this] at h1
      cases h1
  have hset : ∀ j, j < 6 → (cur.setIfInBounds (M * 6 + 2) (.int .i64 p))[i * 6 + j]? = if i = M ∧ j = 2 then some (.int .i64 p) else cur[i * 6 + j]? := fun j hj => by
    rw [Array.getElem?_setIfInBounds]
    by_cases e : M * 6 + 2 = i * 6 + j
    · have h1 := hsz j hj
      rw [if_pos e, if_pos (by omega), if_pos (by omega)]
    · rw [if_neg e, if_neg (by omega)]
  refine ⟨g, rfl, by have := hb2.lt; exact this, ?_, ?_, ?_, ?_, ?_, ?_⟩
  · rw [hb2.cell, show i * 6 = i * 6 + 0 by omega, hset 0 (by omega), if_neg (by omega), hcur 0 (by omega), hbe]; rfl
  · rw [hb2.cell, hset 1 (by omega), if_neg (by omega), hcur 1 (by omega), hbe]; rfl
  · rw [hb2.cell, hset 2 (by omega), hbe]
    by_cases h : i = M
    · rw [if_pos ⟨h, rfl⟩, if_pos h]
    · rw [if_neg (fun e => h e.1), if_neg h, hcur 2 (by omega)]; rfl
  · rw [hb2.cell, hset 3 (by omega), if_neg (by omega), hcur 3 (by omega)]; rfl
  · rw [hb2.cell, hset 4 (by omega), if_neg (by omega), hcur 4 (by omega)]; rfl
  · rw [hb2.cell, hset 5 (by omega), if_neg (by omega), hcur 5 (by omega)]; rfl
set_option maxRecDepth 100000 in
set_option maxHeartbeats 1000000 in
theorem treeRounds_walk (n to : Int) (w0 : (Lit.int .u8 n).wf = true) (w1 : (Lit.int .u8 to).wf = true) (w : World) :
    Calls Try.prog 7 #[.int .u8 n, .int .u8 to] w fun e w' => e = .returned (.bool true) ∧ Below w.heap.size w w' := by
  have hn : 0 ≤ n ∧ n < 256 := by
    simp [Lit.wf, IntKind.min, IntKind.max, IntKind.signed, IntKind.bits] at w0; omega
  have ht : 0 ≤ to ∧ to < 256 := by
    simp [Lit.wf, IntKind.min, IntKind.max, IntKind.signed, IntKind.bits] at w1; omega
  obtain ⟨n0, n1⟩ := hn
  obtain ⟨t0, t1⟩ := ht
  clear w0 w1
  obtain ⟨M, hM⟩ : ∃ M : Nat, (M : Int) = n % 20 := ⟨(n % 20).toNat, by omega⟩
  have hM20 : M < 20 := by omega
  have ra : n.tmod 20 = M := by rw [hM]; exact Int.tmod_eq_emod_of_nonneg n0
  obtain ⟨q, hq⟩ : ∃ q : Nat, (q : Int) = to % (1 + (M : Int) + 3) := ⟨(to % (1 + (M : Int) + 3)).toNat, by rw [Int.toNat_of_nonneg]; exact Int.emod_nonneg _ (by omega)⟩
  have hq30 : (q : Int) < 1 + (M : Int) + 3 := by rw [hq]; exact Int.emod_lt_of_pos _ (by omega)
  have rb : to.tmod (1 + (M : Int) + 3) = q := by rw [hq]; exact Int.tmod_eq_emod_of_nonneg t0
  have hwn : IntKind.i64.wrap n = n := IntWalk.i64_in _ (by omega)
  have hwt : IntKind.i64.wrap to = to := IntWalk.i64_in _ (by omega)
  have HRB := Lib.hid rb
  have HW := Lib.hid (Below.refl w.heap.size w)
  clear hM hq rb
  go_enter Try.func7, Try.ntmps7
  go_wp2_with fail
  clear ra
  go_loopw [6, 7] (fun t6 t7 wr => ∃ (m : Nat) (A : Option Addr) (c : Nat), m ≤ M + 1 ∧ t6 = .slice A m c ∧ t7 = .int .i64 ((m : Int) + 1) ∧ Hid (wr.ownsRow w.heap.size 27 6 (.slice A m c) m ((bxs m).flatMap cellsB)) ∧ Hid (Below w.heap.size w wr)) (fun t6 _ _ => M + 1 - sLen t6)
  case atStart => exact ⟨0, none, 0, by omega, rfl, rfl, World.ownsRow_nil _ _ _ _, HW⟩
  case round =>
    obtain ⟨m, A, c, hm, rfl, rfl, ho, hw⟩ := hrel
    by_cases hlt : m < M + 1
    · have hle : (m : Int) + 1 ≤ 1 + (M : Int) := by omega
      have hsm : wr.heap.size = wr.heap.size := rfl
      go_wp2_with (at_builtin; refine wpList_pushBox wr rfl _ _ rfl w.heap.size (.slice A m c) m ((bxs m).flatMap cellsB) (by first | rfl | simp [Act.eval]) ho.out ⟨(m : Int) + 1, ⟨#[120]⟩, (m : Int) + 1 + 1⟩ (by first | rfl | simp [Act.eval]) ?lim hw.out.size ?_; (case lim => omega); intro v' w3 ho3 hg3; obtain ⟨Av, cv, rfl⟩ := own_form ho3; rw [← bxs_succ] at ho3; have HO3 := Lib.hid ho3; have HW3 := Lib.hid (hw.out.trans hg3); clear ho3 hg3)
      go_roundw
      case rel => exact ⟨m + 1, Av, cv, by omega, rfl, by go_num, HO3, HW3⟩
      case measure => simp [sLen]; omega
    · obtain rfl : m = M + 1 := by omega
      rcases ho.out.2 with ⟨h1, _⟩ | ⟨g, cap, cur, hv, hge, hg, _, _, hcs, htake⟩
      · cases h1
      · injection hv with e1 e2 e3
        subst e1 e3
        have hblk : Blk wr g 27 cur := hg
        have hbx := bxr_at wr g M (1 + (q : Int)) cur hblk htake
        have hbs : (bxs (M + 1))[M]? = some ⟨(M : Int) + 1, ⟨#[120]⟩, (M : Int) + 1 + 1⟩ := by
          unfold bxs
          rw [List.getElem?_map, List.getElem?_range (Nat.lt_succ_self M)]
          rfl
        have q1 : wr.cell? ⟨g, M * 6 + 2, none⟩ = some (.int .i64 ((M : Int) + 1 + 1)) := by
          rw [hblk.cell]
          have := flat_at _ M 2 _ hbs (by omega)
          rw [← htake, List.getElem?_take, if_pos (by omega)] at this
          simpa [cellsB] using this
        have q2 : wr.frozen? ⟨g, M * 6 + 2, none⟩ = false := hblk.frozen _
        have e4 : 1 + (M : Int) - 1 = (M : Int) := by omega
        have rb := HRB.out
        have HBX := Lib.hid hbx
        have HWS : Hid (Below w.heap.size w (wr.setCell ⟨g, M * 6 + 2, none⟩ (.int .i64 (1 + (q : Int))))) := hw.out.setCell (p := ⟨g, M * 6 + 2, none⟩) hge _
        have hng : ¬ 1 + (M : Int) < (M : Int) + 1 := by omega
        clear hblk hbs hbx hg htake hcs ho hge hlt HRB
        go_wp2_with fail
        generalize (wr.setCell ⟨g, M * 6 + 2, none⟩ (.int .i64 (1 + (q : Int)))) = W at *
        clear q1 q2 rb e4 hng hw
        have hp1 := bxr_par M (1 + (q : Int)) (by omega)
        have HLN := Lib.hid (bxr_len M (1 + (q : Int))).symm
        have HP0 : Hid (∀ b ∈ bxr M (1 + (q : Int)), b.par ≠ 0) := fun b hb => by have := hp1 b hb; omega
        have HPM : Hid (∀ b ∈ bxr M (1 + (q : Int)), b.par ≠ -1) := fun b hb => by have := hp1 b hb; omega
        clear hp1
        generalize bxr M (1 + (q : Int)) = L at *
        go_loopw [8] (fun t8 w2 => ∃ j : Nat, j ≤ M + 1 ∧ t8 = .int .i64 ((j : Int) + 1) ∧ Hid (BoxAt w2 (some ⟨g, 0, none⟩) L) ∧ Hid (Below w.heap.size w w2)) (fun t8 _ => M + 2 - (intOf t8).toNat)
        case atStart => exact ⟨0, by omega, rfl, HBX, HWS⟩
        case round =>
          obtain ⟨j, hj, rfl, hx, hw⟩ := hrel
          by_cases hlt : j < M + 1
          · have hle : (j : Int) + 1 ≤ 1 + (M : Int) := by omega
            go_wp2_with fail
            have h1 := path_none L (some ⟨g, 0, none⟩) (M + 1) c ((j : Int) + 1) _ HLN.out (by omega) hx.out HP0.out
            unfold PathIs at h1
            refine (h1 : Calls _ _ _ _ _).mono ?_; rintro e w3 ⟨rfl, hw3⟩
            have HX3 := Lib.hid (hx.out.below hw3)
            have HW3 := Lib.hid (nextB hw.out hw3)
            clear h1 hx hw hw3
            go_wp2_with fail
            have h2 := under_none L (some ⟨g, 0, none⟩) (M + 1) c ((j : Int) + 1) (-1) _ HLN.out (by omega) HX3.out (by omega) HPM.out
            unfold UnderIs at h2
            refine (h2 : Calls _ _ _ _ _).mono ?_; rintro e w4 ⟨rfl, hw4⟩
            have HX4 := Lib.hid (HX3.out.below hw4)
            have HW4 := Lib.hid (nextB HW3.out hw4)
            clear h2 HX3 HW3 hw4
            go_wp2_with fail
            go_roundw
            case rel => exact ⟨j + 1, by omega, by go_num, HX4, HW4⟩
            case measure => simp [intOf]; omega
          · obtain rfl : j = M + 1 := by omega
            have hle : ¬ ((M + 1 : Nat) : Int) + 1 ≤ 1 + (M : Int) := by omega
            have hle2 : ¬ (M : Int) + 1 + 1 ≤ 1 + (M : Int) := by omega
            clear HBX HWS
            go_wp2_with fail
            have h1 := found_x L (some ⟨g, 0, none⟩) (M + 1) c _ HLN.out (by omega) hx.out HP0.out
            unfold FoundNot at h1
            refine (h1 : Calls _ _ _ _ _).mono ?_; rintro e w3 ⟨rfl, hw3⟩
            have HX3 := Lib.hid (hx.out.below hw3)
            have HW3 := Lib.hid (nextB hw.out hw3)
            clear h1 hx hw hw3
            go_wp2_with fail
            have h2 := found_e L (some ⟨g, 0, none⟩) (M + 1) c _ HLN.out (by omega) HX3.out HP0.out
            unfold FoundNot at h2
            refine (h2 : Calls _ _ _ _ _).mono ?_; rintro e w4 ⟨rfl, hw4⟩
            have HW4 := nextB HW3.out hw4
            clear h2 HX3 HW3 hw4
            go_wp2_with fail
            refine (awake16_any _).mono ?_; rintro e w5 ⟨rfl, hw5⟩
            have hW := nextB HW4 hw5
            go_wp2_with fail
            go_ret
            exact ⟨rfl, hW⟩
end Go.Proofs.Ytlmelclfdafhbaa
