/- Boxes that stand in one another: Under, Find. -/
import Derived.Test.YtlmelclfdafhbaaTreeC1
namespace Go.Proofs.Ytlmelclfdafhbaa
open Go.RowKit Go.PlainAid
set_option linter.unusedVariables false
set_option linter.unusedSimpArgs false
set_option maxHeartbeats 1000000 in
theorem under_self (A : Option Addr) (n c : Nat) (id : Int) (w : World) (hl : n ≤ 1000000) : UnderIs A n c id id true w := by
  have nw : IntKind.i64.wrap ((n : Int) + 1) = (n : Int) + 1 := IntWalk.i64_in _ (by omega)
  have hlti : (0 : Int) < (n : Int) + 1 := by omega
  have hlt2 : (0 : Int) ≤ (n : Int) := by omega
  unfold UnderIs
  go_enter Try.func13, Try.ntmps13
  go_wp2_with fail
  go_loopw [1, 11] (fun t1 t11 wr => t1 = .int .i64 id ∧ t11 = .int .i64 0 ∧ Hid (wr = w)) (fun _ t11 _ => 0)
  case atStart => exact ⟨rfl, rfl, rfl⟩
  case round =>
    obtain ⟨rfl, rfl, hw⟩ := hrel
    have hW := Below.refl wr.heap.size wr
    have hw := hw.out
    subst hw
    go_wp2_with fail
    go_ret
    exact ⟨rfl, hW⟩
set_option maxHeartbeats 1000000 in
theorem under_par (l : List Bx) (P : Nat → ByteArray) (A : Option Addr) (n c i j : Nat) (b : Bx) (w : World) (hn : n = l.length) (hx : BoxAt w A l) (hm : MadeOk l P) (hb : l[i]? = some b) (hp : b.par = (j : Int) + 1) (hji : j < i) : UnderIs A n c ((i : Int) + 1) ((j : Int) + 1) true w := by
  have hl : n ≤ 1000 := by rw [hn]; exact hm.len
  have hil := (List.getElem?_eq_some_iff.1 hb).1
  have nw : IntKind.i64.wrap ((n : Int) + 1) = (n : Int) + 1 := IntWalk.i64_in _ (by omega)
  have HF : Hid (∀ w', Below w.heap.size w w' → Calls Try.prog 16 #[.slice A n c, .int .i64 ((i : Int) + 1)] w' fun e w'' => e = .returned (.int .i64 (i : Int)) ∧ Below w'.heap.size w' w'') := fun w' hw' => by
    have hf := tfind_any l A n c ((i : Int) + 1) w' hn (by omega) (hx.below hw')
    unfold FindIs at hf
    rw [fnd_made hm i hil] at hf
    exact hf
  obtain ⟨g, rfl, hg, _, _, q2, _, _, _⟩ := hx i b hb
  rw [hp] at q2
  have HQ2 := Lib.hid q2
  have hne : (((i : Int) + 1) == ((j : Int) + 1)) = false := by rw [beq_eq_false_iff_ne]; omega
  have hne2 : ¬ i = j := by omega
  have hnn : i < n := by omega
  have hi0 : ¬ (i : Int) < 0 := by omega
  have hn0 : (0 : Int) < (n : Int) + 1 := by omega
  have hn1 : (1 : Int) < (n : Int) + 1 := by omega
  have HW := Lib.hid (Below.refl w.heap.size w)
  clear hx hn hm hb hp q2
  unfold UnderIs
  go_enter Try.func13, Try.ntmps13
  go_wp2_with fail
  go_loopw [1, 11] (fun t1 t11 wr => ∃ (m : Nat) (x : Int), t1 = .int .i64 x ∧ t11 = .int .i64 m ∧ Hid ((m = 0 ∧ x = (i : Int) + 1) ∨ (m = 1 ∧ x = (j : Int) + 1)) ∧ Hid (Below w.heap.size w wr)) (fun _ t11 _ => 2 - (intOf t11).toNat)
  case atStart => exact ⟨0, (i : Int) + 1, rfl, rfl, .inl ⟨rfl, rfl⟩, HW⟩
  case round =>
    obtain ⟨m, x, rfl, rfl, hc, hw⟩ := hrel
    rcases hc.out with ⟨h1, h2⟩ | ⟨h1, h2⟩
    · subst h1 h2
      clear hc
      go_wp2_with fail
      refine (HF.out _ hw.out : Calls _ _ _ _ _).mono ?_; rintro e w2 ⟨rfl, hw2⟩
      have hW := Lib.hid (nextB hw.out hw2)
      have f2 : w2.cell? ⟨g, i * 6 + 2, none⟩ = some (.int .i64 ((j : Int) + 1)) := by rw [hW.out.cell (p := ⟨g, i * 6 + 2, none⟩) hg]; exact HQ2.out
      clear HF hw hw2
      go_wp2_with fail
      go_roundw
      case rel => exact ⟨1, (j : Int) + 1, rfl, rfl, .inr ⟨rfl, rfl⟩, hW⟩
      case measure => simp [intOf]
    · subst h1 h2
      clear hc
      have hW := hw.out
      go_wp2_with fail
      go_ret
      exact ⟨rfl, hW⟩
def FoundIs (A : Option Addr) (n c : Nat) (S : ByteArray) (r : Int) (w : World) : Prop := Calls Try.prog 11 #[.slice A n c, .string S] w fun e w' => e = .returned (.tuple #[.int .i64 r, .bool true]) ∧ Below w.heap.size w w'
set_option maxHeartbeats 1000000 in
theorem found_other (l : List Bx) (P : Nat → ByteArray) (A : Option Addr) (n c k : Nat) (S : ByteArray) (w : World) (hn : n = l.length) (hx : BoxAt w A l) (hm : MadeOk l P) (hk : k < n) (hS : S.size ≤ 1000000) (hfold : ((foldS S).toList == (foldS ⟨#[73, 78, 66, 79, 88]⟩).toList) = false)
    (hP : P k = S) (hne : ∀ j, j < k → ((P j).toList == (S : ByteArray).toList) = false) (h0 : ¬ S.toList = []) : FoundIs A n c S ((k : Int) + 1) w := by
  have HX := Lib.hid hx
  have HN := Lib.hid hn
  have HM := Lib.hid hm
  have HP := Lib.hid hP
  have HNE := Lib.hid hne
  have hl : n ≤ 1000 := by rw [hn]; exact hm.len
  have hW := Below.refl w.heap.size w
  have h01 : S.toList.isEmpty = false := by simpa using h0
  have h02 : (!S.toList.isEmpty) = true := by rw [h01]; rfl
  have h03 : (S.toList == []) = false := by simpa using h0
  obtain ⟨F1, hF1⟩ : ∃ F, F = foldS S := ⟨_, rfl⟩
  obtain ⟨F2, hF2⟩ : ∃ F, F = foldS ⟨#[73, 78, 66, 79, 88]⟩ := ⟨_, rfl⟩
  have hB : (F1.toList == F2.toList) = false := by rw [hF1, hF2]; exact hfold
  have HF1 : Hid (∀ w, Calls Try.prog 15 #[.string S] w fun e w' => e = .returned (.string F1) ∧ Below w.heap.size w w') := fun w => by rw [hF1]; exact fold_any _ w (by omega)
  have HF2 : Hid (∀ w, Calls Try.prog 15 #[.string ⟨#[73, 78, 66, 79, 88]⟩] w fun e w' => e = .returned (.string F2) ∧ Below w.heap.size w w') := fun w => by rw [hF2]; exact fold_any _ w (by decide)
  clear hx hn hm hF1 hF2 hP hne hfold
  unfold FoundIs
  go_enter Try.func11, Try.ntmps11
  go_wp2_with fail
  refine (HF1.out _ : Calls _ _ _ _ _).mono ?_; rintro e w2 ⟨rfl, hw2⟩
  replace hW := nextB hW hw2; clear hw2
  go_wp2_with fail
  refine (HF2.out _ : Calls _ _ _ _ _).mono ?_; rintro e w3 ⟨rfl, hw3⟩
  replace hW := Lib.hid (nextB hW hw3); clear hw3 HF1 HF2
  go_wp2_with fail
  go_loopw [14] (fun t14 wr => ∃ j : Nat, j ≤ k ∧ t14 = .int .i64 j ∧ Hid (Below w.heap.size w wr)) (fun t14 _ => k + 1 - (intOf t14).toNat)
  case atStart => exact ⟨0, by omega, rfl, hW⟩
  case round =>
    obtain ⟨j, hj, rfl, hw⟩ := hrel
    have hlt : j < n := by omega
    have hlt' : j < l.length := by have := HN.out; omega
    obtain ⟨b, hb⟩ : ∃ b, l[j]? = some b := ⟨_, List.getElem?_eq_getElem hlt'⟩
    have HXr := HX.out.below hw.out
    obtain ⟨g, rfl, hg, q0, q1, q2, q3, q4, q5⟩ := HXr j b hb
    have hid := HM.out.id j b hb
    rw [hid] at q0
    have hpath := path_made l P (some ⟨g, 0, none⟩) n c j (wr.alloc (.cells #[.int .i64 ((j : Int) + 1), .string b.name, .int .i64 b.par, .int .i64 0, .int .i64 0, .int .i64 0] 27)) HN.out (HXr.below ((Below.refl _ _).alloc (Nat.le_refl _) _)) HM.out hlt
    unfold PathIs at hpath
    have hwA := Lib.hid (nextB hw.out ((Below.refl _ wr).alloc (Nat.le_refl _) (.cells #[.int .i64 ((j : Int) + 1), .string b.name, .int .i64 b.par, .int .i64 0, .int .i64 0, .int .i64 0] 27)))
    have q9 : (wr.alloc (.cells #[.int .i64 ((j : Int) + 1), .string b.name, .int .i64 b.par, .int .i64 0, .int .i64 0, .int .i64 0] 27)).cell? ⟨wr.heap.size, 0, none⟩ = some (.int .i64 ((j : Int) + 1)) := (Blk.new wr _ _).cell 0
    have Q9 := Lib.hid q9
    have hsz : wr.heap.size < (wr.alloc (.cells #[.int .i64 ((j : Int) + 1), .string b.name, .int .i64 b.par, .int .i64 0, .int .i64 0, .int .i64 0] 27)).heap.size := by simp
    have HSZ := Lib.hid hsz
    obtain ⟨bi, bn, bp⟩ := b
    by_cases hjk : j = k
    · subst hjk
      rw [HP.out] at hpath
      have HPA := Lib.hid hpath
      clear hpath HXr hb hlt' hid hsz q9
      go_wp2_with fail
      refine (HPA.out : Calls _ _ _ _ _).mono ?_; rintro e w4 ⟨rfl, hw4⟩
      have hW2 := nextB hwA.out hw4
      have q8 : w4.cell? ⟨wr.heap.size, 0, none⟩ = some (.int .i64 ((j : Int) + 1)) := (hw4.cell (p := ⟨wr.heap.size, 0, none⟩) HSZ.out).trans Q9.out
      clear hw4 HPA q0 q1 q2 q3 q4 q5
      go_wp2_with fail
      go_ret2
      exact ⟨rfl, hW2⟩
    · have hq := HNE.out j (by omega)
      generalize P j = R at *
      have HPA := Lib.hid hpath
      clear hpath HXr hb hlt' hid hsz q9
      go_wp2_with fail
      refine (HPA.out : Calls _ _ _ _ _).mono ?_; rintro e w4 ⟨rfl, hw4⟩
      have hW2 := Lib.hid (nextB hwA.out hw4)
      clear hw4 HPA q0 q1 q2 q3 q4 q5
      go_wp2_with fail
      go_roundw
      case rel => exact ⟨j + 1, by omega, by go_num, hW2⟩
      case measure => simp [intOf]; omega
set_option maxHeartbeats 1000000 in
theorem found_inbox (l : List Bx) (P : Nat → ByteArray) (A : Option Addr) (n c k : Nat) (S : ByteArray) (w : World) (hn : n = l.length) (hx : BoxAt w A l) (hm : MadeOk l P) (hk : k < n) (hS : S.size ≤ 1000000) (hfold : ((foldS S).toList == (foldS ⟨#[73, 78, 66, 79, 88]⟩).toList) = true)
    (hP : P k = ⟨#[73, 78, 66, 79, 88]⟩) (hne : ∀ j, j < k → ((P j).toList == (⟨#[73, 78, 66, 79, 88]⟩ : ByteArray).toList) = false) (h0 : ¬ S.toList = []) (hk0 : k = 0) : FoundIs A n c S ((k : Int) + 1) w := by
  have HK0 := Lib.hid hk0
  clear hk0
  have HX := Lib.hid hx
  have HN := Lib.hid hn
  have HM := Lib.hid hm
  have HP := Lib.hid hP
  have HNE := Lib.hid hne
  have hl : n ≤ 1000 := by rw [hn]; exact hm.len
  have hW := Below.refl w.heap.size w
  have h01 : S.toList.isEmpty = false := by simpa using h0
  have h02 : (!S.toList.isEmpty) = true := by rw [h01]; rfl
  have h03 : (S.toList == []) = false := by simpa using h0
  obtain ⟨F1, hF1⟩ : ∃ F, F = foldS S := ⟨_, rfl⟩
  obtain ⟨F2, hF2⟩ : ∃ F, F = foldS ⟨#[73, 78, 66, 79, 88]⟩ := ⟨_, rfl⟩
  have hB : (F1.toList == F2.toList) = true := by rw [hF1, hF2]; exact hfold
  have HF1 : Hid (∀ w, Calls Try.prog 15 #[.string S] w fun e w' => e = .returned (.string F1) ∧ Below w.heap.size w w') := fun w => by rw [hF1]; exact fold_any _ w (by omega)
  have HF2 : Hid (∀ w, Calls Try.prog 15 #[.string ⟨#[73, 78, 66, 79, 88]⟩] w fun e w' => e = .returned (.string F2) ∧ Below w.heap.size w w') := fun w => by rw [hF2]; exact fold_any _ w (by decide)
  clear hx hn hm hF1 hF2 hP hne hfold
  unfold FoundIs
  go_enter Try.func11, Try.ntmps11
  go_wp2_with fail
  refine (HF1.out _ : Calls _ _ _ _ _).mono ?_; rintro e w2 ⟨rfl, hw2⟩
  replace hW := nextB hW hw2; clear hw2
  go_wp2_with fail
  refine (HF2.out _ : Calls _ _ _ _ _).mono ?_; rintro e w3 ⟨rfl, hw3⟩
  replace hW := Lib.hid (nextB hW hw3); clear hw3 HF1 HF2
  go_wp2_with fail
  go_loopw [14] (fun t14 wr => ∃ j : Nat, j ≤ k ∧ t14 = .int .i64 j ∧ Hid (Below w.heap.size w wr)) (fun t14 _ => k + 1 - (intOf t14).toNat)
  case atStart => exact ⟨0, by omega, rfl, hW⟩
  case round =>
    obtain ⟨j, hj, rfl, hw⟩ := hrel
    have hlt : j < n := by omega
    have hlt' : j < l.length := by have := HN.out; omega
    obtain ⟨b, hb⟩ : ∃ b, l[j]? = some b := ⟨_, List.getElem?_eq_getElem hlt'⟩
    have HXr := HX.out.below hw.out
    obtain ⟨g, rfl, hg, q0, q1, q2, q3, q4, q5⟩ := HXr j b hb
    have hid := HM.out.id j b hb
    rw [hid] at q0
    have hpath := path_made l P (some ⟨g, 0, none⟩) n c j (wr.alloc (.cells #[.int .i64 ((j : Int) + 1), .string b.name, .int .i64 b.par, .int .i64 0, .int .i64 0, .int .i64 0] 27)) HN.out (HXr.below ((Below.refl _ _).alloc (Nat.le_refl _) _)) HM.out hlt
    unfold PathIs at hpath
    have hwA := Lib.hid (nextB hw.out ((Below.refl _ wr).alloc (Nat.le_refl _) (.cells #[.int .i64 ((j : Int) + 1), .string b.name, .int .i64 b.par, .int .i64 0, .int .i64 0, .int .i64 0] 27)))
    have q9 : (wr.alloc (.cells #[.int .i64 ((j : Int) + 1), .string b.name, .int .i64 b.par, .int .i64 0, .int .i64 0, .int .i64 0] 27)).cell? ⟨wr.heap.size, 0, none⟩ = some (.int .i64 ((j : Int) + 1)) := (Blk.new wr _ _).cell 0
    have Q9 := Lib.hid q9
    have hsz : wr.heap.size < (wr.alloc (.cells #[.int .i64 ((j : Int) + 1), .string b.name, .int .i64 b.par, .int .i64 0, .int .i64 0, .int .i64 0] 27)).heap.size := by simp
    have HSZ := Lib.hid hsz
    obtain ⟨bi, bn, bp⟩ := b
    by_cases hjk : j = k
    · subst hjk
      rw [HP.out] at hpath
      have HPA := Lib.hid hpath
      clear hpath HXr hb hlt' hid hsz q9
      go_wp2_with fail
      refine (HPA.out : Calls _ _ _ _ _).mono ?_; rintro e w4 ⟨rfl, hw4⟩
      have hW2 := nextB hwA.out hw4
      have q8 : w4.cell? ⟨wr.heap.size, 0, none⟩ = some (.int .i64 ((j : Int) + 1)) := (hw4.cell (p := ⟨wr.heap.size, 0, none⟩) HSZ.out).trans Q9.out
      clear hw4 HPA q0 q1 q2 q3 q4 q5
      go_wp2_with fail
      go_ret2
      exact ⟨rfl, hW2⟩
    · have := HK0.out; exfalso; omega
end Go.Proofs.Ytlmelclfdafhbaa
