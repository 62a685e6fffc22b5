/- The laws of chapter 2: their walks. -/
import Derived.Test.YtiaikpbnjhhiaaaUtfVal
namespace Go.Proofs.Ytiaikpbnjhhiaaa
open Go.RowKit Go.PlainAid
set_option linter.unusedVariables false
set_option linter.unusedSimpArgs false
def getI (s : ByteArray) (k : Int) : Int × Int := if k < 0 ∨ s.size ≤ k then (-1, k) else getL s.toList k.toNat
def GetI (f : Nat) : Prop := ∀ (s : ByteArray) (k : Int) (w : World), s.size ≤ 9223372036854775807 → Calls Try.prog f #[.string s, .int .i64 k] w (GetEnd (getI s k) w)
theorem get_int : GetI 11 := by
  intro s k w hs
  unfold getI
  by_cases h : k < 0 ∨ s.size ≤ k
  · rw [if_pos h]; exact get_out s k w hs h
  · rw [if_neg h]
    obtain ⟨j, rfl⟩ := Int.eq_ofNat_of_zero_le (by omega : 0 ≤ k)
    exact get_any s j w hs (by omega)
theorem rget_int : GetI 13 := by
  intro s k w hs
  unfold getI
  by_cases h : k < 0 ∨ s.size ≤ k
  · rw [if_pos h]; exact rget_out s k w hs h
  · rw [if_neg h]
    obtain ⟨j, rfl⟩ := Int.eq_ofNat_of_zero_le (by omega : 0 ≤ k)
    exact rget_any s j w hs (by omega)
theorem awake2_any (w : World) : Calls Try.prog 10 #[] w fun e w' => e = .returned (.bool true) ∧ Below w.heap.size w w' := by
  have e1 : getI ⟨#[195, 164]⟩ 0 = (228, 2) := by
    have hl : (⟨#[195, 164]⟩ : ByteArray).toList = [195, 164] := by rw [ByteArray.toList_eq]
    unfold getI
    rw [if_neg (by decide), hl]
    decide +kernel
  have g : ∀ w, Calls Try.prog 11 #[.string ⟨#[195, 164]⟩, .int .i64 0] w (GetEnd (228, 2) w) := fun w => by
    rw [← e1]; exact get_int _ _ w (by decide)
  have p : ∀ w, Calls Try.prog 9 #[.int .i64 228] w fun e w' => e = .returned (.string ⟨#[195, 164]⟩) ∧ Below w.heap.size w w' := fun w => by
    have := put_any 228 w
    have e2 : put 228 = ⟨#[195, 164]⟩ := by decide +kernel
    rw [e2] at this
    exact this
  have G := Lib.hid g
  have PP := Lib.hid p
  clear g p e1
  go_enter Try.func10, Try.ntmps10
  go_wp2_with (first | (go_at_call 11; refine (G.out _).mono ?_; rintro e w1 ⟨rfl, hw1⟩) | (go_at_call 9; refine (PP.out _).mono ?_; rintro e w2 ⟨rfl, hw2⟩))
  go_ret
  exact ⟨rfl, hw1.trans (hw2.mono hw1.size)⟩
end Go.Proofs.Ytiaikpbnjhhiaaa
