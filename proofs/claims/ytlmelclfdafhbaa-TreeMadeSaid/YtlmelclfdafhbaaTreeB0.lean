/- Boxes in a row; the place of a box by its id. -/
import Derived.Test.YtlmelclfdafhbaaMem
import Derived.Test.YtlmelclfdafhbaaUtf0
import Derived.Lib.Hide
namespace Go.Proofs.Ytlmelclfdafhbaa
open Go.RowKit Go.PlainAid
set_option linter.unusedVariables false
set_option linter.unusedSimpArgs false
structure Bx where
  id : Int
  name : ByteArray
  par : Int
/-- the boxes l stand at A -/
def BoxAt (w : World) (A : Option Addr) (l : List Bx) : Prop := ∀ k b, l[k]? = some b → ∃ g, A = some ⟨g, 0, none⟩ ∧ g < w.heap.size ∧
  w.cell? ⟨g, k * 6, none⟩ = some (.int .i64 b.id) ∧ w.cell? ⟨g, k * 6 + 1, none⟩ = some (.string b.name) ∧ w.cell? ⟨g, k * 6 + 2, none⟩ = some (.int .i64 b.par) ∧
  w.cell? ⟨g, k * 6 + 3, none⟩ = some (.int .i64 0) ∧ w.cell? ⟨g, k * 6 + 4, none⟩ = some (.int .i64 0) ∧ w.cell? ⟨g, k * 6 + 5, none⟩ = some (.int .i64 0)
theorem BoxAt.below {w w' : World} {A : Option Addr} {l : List Bx} (h : BoxAt w A l) (hb : Below w.heap.size w w') : BoxAt w' A l := fun k b hk => by
  obtain ⟨g, e, hg, h0, h1, h2, h3, h4, h5⟩ := h k b hk
  have f : ∀ o, w'.cell? ⟨g, o, none⟩ = w.cell? ⟨g, o, none⟩ := fun o => hb.cell (p := ⟨g, o, none⟩) hg
  exact ⟨g, e, Nat.lt_of_lt_of_le hg hb.size, (f _).trans h0, (f _).trans h1, (f _).trans h2, (f _).trans h3, (f _).trans h4, (f _).trans h5⟩
/-- the place of the first box with an id, from k on -/
def fnd : List Bx → Int → Nat → Int
  | [], _, _ => -1
  | b :: l, id, k => if b.id = id then (k : Int) else fnd l id (k + 1)
theorem fnd_bd : ∀ (l : List Bx) (id : Int) (k : Nat), fnd l id k = -1 ∨ ∃ j b, fnd l id k = ((k + j : Nat) : Int) ∧ l[j]? = some b ∧ b.id = id
  | [], id, k => .inl rfl
  | b :: l, id, k => by
    unfold fnd
    split
    · exact .inr ⟨0, b, by simp, rfl, by assumption⟩
    · rcases fnd_bd l id (k + 1) with h | ⟨j, b', h1, h2, h3⟩
      · exact .inl h
      · exact .inr ⟨j + 1, b', by rw [h1]; congr 1; omega, by simpa using h2, h3⟩
set_option maxHeartbeats 1000000 in
theorem find1_yes (b : Bx) (B : Nat) (id : Int) (w : World) (hB : B < w.heap.size) (hc : w.cell? ⟨B, 0, none⟩ = some (.int .i64 id)) (v : Bool) (hv : (b.id == id) = v) :
    Calls Try.prog 21 #[.agg #[.int .i64 b.id, .string b.name, .int .i64 b.par, .int .i64 0, .int .i64 0, .int .i64 0], .pointer (some ⟨B, 0, none⟩)] w fun e w' => e = .returned (.bool v) ∧ Below w.heap.size w w' := by
  have hne : B ≠ w.heap.size := by omega
  have hb := Below.refl w.heap.size w
  obtain ⟨i, nm, p⟩ := b
  simp only at hv ⊢
  go_enter Try.func21, Try.ntmps21
  go_wp2
  all_goals (go_ret; exact ⟨by simp_all, hb.alloc hb.size _⟩)
def FindIs (A : Option Addr) (n c : Nat) (id r : Int) (w : World) : Prop := Calls Try.prog 16 #[.slice A n c, .int .i64 id] w fun e w' => e = .returned (.int .i64 r) ∧ Below w.heap.size w w'
set_option maxHeartbeats 1000000 in
theorem indexBox_any (l : List Bx) (A : Option Addr) (n c B : Nat) (id : Int) (w : World) (hn : n = l.length) (hl : n ≤ 1000000) (hx : BoxAt w A l) (hB : B < w.heap.size) (hc : w.cell? ⟨B, 0, none⟩ = some (.int .i64 id)) :
    Calls Try.prog 20 #[.slice A n c, .func (.func 21) #[] #[.pointer (some ⟨B, 0, none⟩)]] w fun e w' => e = .returned (.int .i64 (fnd l id 0)) ∧ Below w.heap.size w w' := by
  have HX := Lib.hid hx
  have HN := Lib.hid hn
  have HC := Lib.hid hc
  have HW := Lib.hid (Below.refl w.heap.size w)
  obtain ⟨R, hR⟩ : ∃ R, R = fnd l id 0 := ⟨_, rfl⟩
  rw [← hR]
  have HR := Lib.hid hR
  clear hx hn hc hR
  go_enter Try.func20, Try.ntmps20
  go_wp2_with fail
  go_loopw [8] (fun t8 wr => ∃ k : Nat, k ≤ n ∧ t8 = .int .i64 k ∧ Hid (R = fnd (l.drop k) id k) ∧ Hid (Below w.heap.size w wr)) (fun t8 _ => n - (intOf t8).toNat)
  case atStart => exact ⟨0, by omega, rfl, HR, HW⟩
  case round =>
    obtain ⟨k, hk, rfl, hr, hw⟩ := hrel
    by_cases hlt : k < n
    · have hlt' : k < l.length := by have := HN.out; omega
      have hb : l[k]? = some l[k] := List.getElem?_eq_getElem hlt'
      have hdrop : l.drop k = l[k] :: l.drop (k + 1) := List.drop_eq_getElem_cons hlt'
      generalize l[k] = b at hb hdrop
      obtain ⟨g, rfl, hg, h0, h1, h2, h3, h4, h5⟩ := HX.out.below hw.out k b hb
      have hB' := Nat.lt_of_lt_of_le hB hw.out.size
      have hc' : wr.cell? ⟨B, 0, none⟩ = some (.int .i64 id) := by rw [hw.out.cell (p := ⟨B, 0, none⟩) hB]; exact HC.out
      by_cases he : b.id = id
      · have HP := Lib.hid (find1_yes b B id wr hB' hc' true (by simp [he]))
        have hRk : R = k := by rw [hr.out, hdrop]; unfold fnd; rw [if_pos he]
        clear hb hdrop he hr hc'
        obtain ⟨bi, bn, bp⟩ := b
        go_wp2_with fail
        refine (HP.out : Calls _ _ _ _ _).mono ?_; rintro e w2 ⟨rfl, hw2⟩
        have hW := nextB hw.out hw2
        clear HP h0 h1 h2 h3 h4 h5
        subst hRk
        go_wp2_with fail
        go_ret
        exact ⟨rfl, hW⟩
      · have HP := Lib.hid (find1_yes b B id wr hB' hc' false (by simp [he]))
        have hr2 : Hid (R = fnd (l.drop (k + 1)) id (k + 1)) := by show _ = _; rw [hr.out, hdrop]; conv => lhs; unfold fnd; rw [if_neg he]
        clear hb hdrop he hr hc'
        obtain ⟨bi, bn, bp⟩ := b
        go_wp2_with fail
        refine (HP.out : Calls _ _ _ _ _).mono ?_; rintro e w2 ⟨rfl, hw2⟩
        have hW := Lib.hid (nextB hw.out hw2)
        clear HP h0 h1 h2 h3 h4 h5 hw2
        go_wp2_with fail
        go_roundw
        case rel => exact ⟨k + 1, by omega, by go_num, hr2, hW⟩
        case measure => simp [intOf]; omega
    · obtain rfl : k = n := by omega
      have hRk : R = -1 := by rw [hr.out, List.drop_of_length_le (by have := HN.out; omega)]; rfl
      have hW := hw.out
      clear hr
      subst hRk
      go_wp2_with fail
      go_ret
      exact ⟨rfl, hW⟩
theorem tfind_any (l : List Bx) (A : Option Addr) (n c : Nat) (id : Int) (w : World) (hn : n = l.length) (hl : n ≤ 1000000) (hx : BoxAt w A l) : FindIs A n c id (fnd l id 0) w := by
  have HI := Lib.hid (indexBox_any l A n c w.heap.size id (w.alloc (.cells #[.int .i64 id] 3)) hn hl (hx.below ((Below.refl _ _).alloc (Nat.le_refl _) _)) (by simp) (by simp))
  unfold FindIs
  clear hx hn
  generalize fnd l id 0 = R at *
  go_enter Try.func16, Try.ntmps16
  go_wp2_with fail
  refine (HI.out : Calls _ _ _ _ _).mono ?_; rintro e w2 ⟨rfl, hw2⟩
  have hW := ((Below.refl _ w).alloc (Nat.le_refl _) (.cells #[.int .i64 id] 3)).trans (hw2.mono (by simp))
  clear HI
  go_wp2_with fail
  go_ret
  exact ⟨rfl, hW⟩
end Go.Proofs.Ytlmelclfdafhbaa
