/- Boxes: nothing is found where no box is at the top. -/
import Derived.Test.YtlmelclfdafhbaaTreeB1
namespace Go.Proofs.Ytlmelclfdafhbaa
open Go.RowKit Go.PlainAid
set_option linter.unusedVariables false
set_option linter.unusedSimpArgs false
def FoundNot (A : Option Addr) (n c : Nat) (S : ByteArray) (w : World) : Prop := Calls Try.prog 11 #[.slice A n c, .string S] w fun e w' => e = .returned (.tuple #[.int .i64 0, .bool false]) ∧ Below w.heap.size w w'
set_option maxHeartbeats 2000000 in
theorem found_x (l : List Bx) (A : Option Addr) (n c : Nat) (w : World) (hn : n = l.length) (hl : n ≤ 1000000) (hx : BoxAt w A l) (hp : ∀ b ∈ l, b.par ≠ 0) : FoundNot A n c ⟨#[120]⟩ w := by
  have HX := Lib.hid hx
  have HN := Lib.hid hn
  have HP := Lib.hid hp
  have hW := Below.refl w.heap.size w
  obtain ⟨F1, hF1⟩ : ∃ F, F = foldS ⟨#[120]⟩ := ⟨_, rfl⟩
  obtain ⟨F2, hF2⟩ : ∃ F, F = foldS ⟨#[73, 78, 66, 79, 88]⟩ := ⟨_, rfl⟩
  have hB : (F1.toList == F2.toList) = false := by rw [hF1, hF2]; decide +kernel
  have HF1 : Hid (∀ w, Calls Try.prog 15 #[.string ⟨#[120]⟩] w fun e w' => e = .returned (.string F1) ∧ Below w.heap.size w w') := fun w => by rw [hF1]; exact fold_any _ w (by decide)
  have HF2 : Hid (∀ w, Calls Try.prog 15 #[.string ⟨#[73, 78, 66, 79, 88]⟩] w fun e w' => e = .returned (.string F2) ∧ Below w.heap.size w w') := fun w => by rw [hF2]; exact fold_any _ w (by decide)
  clear hx hn hp hF1 hF2
  unfold FoundNot
  go_enter Try.func11, Try.ntmps11
  go_wp2_with fail
  refine (HF1.out _ : Calls _ _ _ _ _).mono ?_; rintro e w2 ⟨rfl, hw2⟩
  replace hW := nextB hW hw2; clear hw2
  go_wp2_with fail
  refine (HF2.out _ : Calls _ _ _ _ _).mono ?_; rintro e w3 ⟨rfl, hw3⟩
  replace hW := Lib.hid (nextB hW hw3); clear hw3 HF1 HF2
  go_wp2_with fail
  go_loopw [14] (fun t14 wr => ∃ k : Nat, k ≤ n ∧ t14 = .int .i64 k ∧ Hid (Below w.heap.size w wr)) (fun t14 _ => n - (intOf t14).toNat)
  case atStart => exact ⟨0, by omega, rfl, hW⟩
  case round =>
    obtain ⟨k, hk, rfl, hw⟩ := hrel
    by_cases hlt : k < n
    · have hlt' : k < l.length := by have := HN.out; omega
      obtain ⟨b, hb⟩ : ∃ b, l[k]? = some b := ⟨_, List.getElem?_eq_getElem hlt'⟩
      have HXr := HX.out.below hw.out
      obtain ⟨g, rfl, hg, h0, h1, h2, h3, h4, h5⟩ := HXr k b hb
      have hpath := path_none l (some ⟨g, 0, none⟩) n c b.id (wr.alloc (.cells #[.int .i64 b.id, .string b.name, .int .i64 b.par, .int .i64 0, .int .i64 0, .int .i64 0] 27)) HN.out hl (HXr.below ((Below.refl _ _).alloc (Nat.le_refl _) _)) HP.out
      unfold PathIs at hpath
      have HPA := Lib.hid hpath
      have hwA := Lib.hid (nextB hw.out ((Below.refl _ wr).alloc (Nat.le_refl _) (.cells #[.int .i64 b.id, .string b.name, .int .i64 b.par, .int .i64 0, .int .i64 0, .int .i64 0] 27)))
      have q0 : (wr.alloc (.cells #[.int .i64 b.id, .string b.name, .int .i64 b.par, .int .i64 0, .int .i64 0, .int .i64 0] 27)).cell? ⟨wr.heap.size, 0, none⟩ = some (.int .i64 b.id) := (Blk.new wr _ _).cell 0
      clear hpath HXr hb hlt'
      obtain ⟨bi, bn, bp⟩ := b
      go_wp2_with fail
      refine (HPA.out : Calls _ _ _ _ _).mono ?_; rintro e w4 ⟨rfl, hw4⟩
      have hW2 := Lib.hid (nextB hwA.out hw4)
      clear hw4 HPA q0 h0 h1 h2 h3 h4 h5
      go_wp2_with fail
      go_roundw
      case rel => exact ⟨k + 1, by omega, by go_num, hW2⟩
      case measure => simp [intOf]; omega
    · obtain rfl : k = n := by omega
      have hWe := hw.out
      go_wp2_with fail
      go_ret2
      exact ⟨rfl, hWe⟩
set_option maxHeartbeats 2000000 in
theorem found_e (l : List Bx) (A : Option Addr) (n c : Nat) (w : World) (hn : n = l.length) (hl : n ≤ 1000000) (hx : BoxAt w A l) (hp : ∀ b ∈ l, b.par ≠ 0) : FoundNot A n c ⟨#[]⟩ w := by
  have HX := Lib.hid hx
  have HN := Lib.hid hn
  have HP := Lib.hid hp
  have hW := Below.refl w.heap.size w
  obtain ⟨F1, hF1⟩ : ∃ F, F = foldS ⟨#[]⟩ := ⟨_, rfl⟩
  obtain ⟨F2, hF2⟩ : ∃ F, F = foldS ⟨#[73, 78, 66, 79, 88]⟩ := ⟨_, rfl⟩
  have hB : (F1.toList == F2.toList) = false := by rw [hF1, hF2]; decide +kernel
  have HF1 : Hid (∀ w, Calls Try.prog 15 #[.string ⟨#[]⟩] w fun e w' => e = .returned (.string F1) ∧ Below w.heap.size w w') := fun w => by rw [hF1]; exact fold_any _ w (by decide)
  have HF2 : Hid (∀ w, Calls Try.prog 15 #[.string ⟨#[73, 78, 66, 79, 88]⟩] w fun e w' => e = .returned (.string F2) ∧ Below w.heap.size w w') := fun w => by rw [hF2]; exact fold_any _ w (by decide)
  clear hx hn hp hF1 hF2
  unfold FoundNot
  go_enter Try.func11, Try.ntmps11
  go_wp2_with fail
  refine (HF1.out _ : Calls _ _ _ _ _).mono ?_; rintro e w2 ⟨rfl, hw2⟩
  replace hW := nextB hW hw2; clear hw2
  go_wp2_with fail
  refine (HF2.out _ : Calls _ _ _ _ _).mono ?_; rintro e w3 ⟨rfl, hw3⟩
  replace hW := Lib.hid (nextB hW hw3); clear hw3 HF1 HF2
  go_wp2_with fail
  go_loopw [14] (fun t14 wr => ∃ k : Nat, k ≤ n ∧ t14 = .int .i64 k ∧ Hid (Below w.heap.size w wr)) (fun t14 _ => n - (intOf t14).toNat)
  case atStart => exact ⟨0, by omega, rfl, hW⟩
  case round =>
    obtain ⟨k, hk, rfl, hw⟩ := hrel
    by_cases hlt : k < n
    · have hlt' : k < l.length := by have := HN.out; omega
      obtain ⟨b, hb⟩ : ∃ b, l[k]? = some b := ⟨_, List.getElem?_eq_getElem hlt'⟩
      have HXr := HX.out.below hw.out
      obtain ⟨g, rfl, hg, h0, h1, h2, h3, h4, h5⟩ := HXr k b hb
      have hpath := path_none l (some ⟨g, 0, none⟩) n c b.id (wr.alloc (.cells #[.int .i64 b.id, .string b.name, .int .i64 b.par, .int .i64 0, .int .i64 0, .int .i64 0] 27)) HN.out hl (HXr.below ((Below.refl _ _).alloc (Nat.le_refl _) _)) HP.out
      unfold PathIs at hpath
      have HPA := Lib.hid hpath
      have hwA := Lib.hid (nextB hw.out ((Below.refl _ wr).alloc (Nat.le_refl _) (.cells #[.int .i64 b.id, .string b.name, .int .i64 b.par, .int .i64 0, .int .i64 0, .int .i64 0] 27)))
      have q0 : (wr.alloc (.cells #[.int .i64 b.id, .string b.name, .int .i64 b.par, .int .i64 0, .int .i64 0, .int .i64 0] 27)).cell? ⟨wr.heap.size, 0, none⟩ = some (.int .i64 b.id) := (Blk.new wr _ _).cell 0
      clear hpath HXr hb hlt'
      obtain ⟨bi, bn, bp⟩ := b
      go_wp2_with fail
      go_roundw
      case rel => exact ⟨k + 1, by omega, by go_num, hwA⟩
      case measure => simp [intOf]; omega
    · obtain rfl : k = n := by omega
      have hWe := hw.out
      go_wp2_with fail
      go_ret2
      exact ⟨rfl, hWe⟩
end Go.Proofs.Ytlmelclfdafhbaa
