/- Boxes that TreeMade makes: plain laws. -/
import Derived.Test.YtlmelclfdafhbaaTreeC2
namespace Go.Proofs.Ytlmelclfdafhbaa
open Go.RowKit Go.PlainAid
set_option linter.unusedVariables false
set_option linter.unusedSimpArgs false
def inboxS : ByteArray := ⟨#[73, 78, 66, 79, 88]⟩
def lastB (k : Nat) : UInt8 := if k = 0 then 88 else UInt8.ofNat (96 + k)
structure Good (l : List Bx) (ps : List ByteArray) : Prop where
  same : ps.length = l.length
  few : l.length ≤ 21
  some_ : 0 < l.length
  zero : ps[0]? = some inboxS
  box : ∀ (k : Nat) (b : Bx), l[k]? = some b → b.id = (k : Int) + 1 ∧ ((b.par = 0 ∧ ps[k]? = some b.name) ∨ ∃ (j : Nat) (p : ByteArray), b.par = (j : Int) + 1 ∧ j < k ∧ ps[j]? = some p ∧ ps[k]? = some (p ++ ⟨#[47]⟩ ++ b.name))
  last : ∀ (k : Nat) (p : ByteArray), ps[k]? = some p → p.toList.getLast? = some (lastB k) ∧ p.size ≤ 10 * (k + 1)
theorem good_start : Good [⟨1, inboxS, 0⟩] [inboxS] := by
  refine ⟨rfl, by simp, by simp, rfl, ?_, ?_⟩
  · intro k b h
    cases k with
    | zero => simp at h; subst h; exact ⟨rfl, .inl ⟨rfl, rfl⟩⟩
    | succ k => simp at h
  · intro k p h
    cases k with
    | zero =>
      simp at h; subst h
      exact ⟨by decide +kernel, by decide⟩
    | succ k => simp at h
theorem good_snoc {l : List Bx} {ps : List ByteArray} (h : Good l ps) (hl : l.length ≤ 20) (b : Bx) (p : ByteArray) (hid : b.id = (l.length : Int) + 1) (hn : b.name.toList.getLast? = some (lastB l.length)) (hs : b.name.size ≤ 5)
    (hp : (b.par = 0 ∧ p = b.name) ∨ ∃ (j : Nat) (q : ByteArray), b.par = (j : Int) + 1 ∧ ps[j]? = some q ∧ p = q ++ ⟨#[47]⟩ ++ b.name) : Good (l ++ [b]) (ps ++ [p]) := by
  have hps : ∀ {k : Nat} {q : ByteArray}, ps[k]? = some q → (ps ++ [p])[k]? = some q := fun {k q} hk => by
    rw [List.getElem?_append_left (List.getElem?_eq_some_iff.1 hk).1]; exact hk
  have hpn : (ps ++ [p])[l.length]? = some p := by rw [← h.same]; simp
  refine ⟨by simp [h.same], by simp; omega, by simp, hps h.zero, ?_, ?_⟩
  · intro k b' hk
    rcases Nat.lt_or_ge k l.length with hlt | hge
    · rw [List.getElem?_append_left hlt] at hk
      obtain ⟨h1, h2⟩ := h.box k b' hk
      refine ⟨h1, ?_⟩
      rcases h2 with ⟨h3, h4⟩ | ⟨j, q, h3, h4, h5, h6⟩
      · exact .inl ⟨h3, hps h4⟩
      · exact .inr ⟨j, q, h3, h4, hps h5, hps h6⟩
    · have hk2 : k = l.length := by
        have := (List.getElem?_eq_some_iff.1 hk).1
        simp at this; omega
      subst hk2
      simp at hk
      subst hk
      refine ⟨hid, ?_⟩
      rcases hp with ⟨h3, h4⟩ | ⟨j, q, h3, h4, h5⟩
      · exact .inl ⟨h3, by rw [hpn, h4]⟩
      · have hj : j < l.length := by rw [← h.same]; exact (List.getElem?_eq_some_iff.1 h4).1
        exact .inr ⟨j, q, h3, hj, hps h4, by rw [hpn, h5]⟩
  · intro k q hk
    rcases Nat.lt_or_ge k ps.length with hlt | hge
    · rw [List.getElem?_append_left hlt] at hk
      exact h.last k q hk
    · have hk2 : k = ps.length := by
        have := (List.getElem?_eq_some_iff.1 hk).1
        simp at this; omega
      subst hk2
      simp at hk
      subst hk
      rw [h.same]
      rcases hp with ⟨h3, h4⟩ | ⟨j, q, h3, h4, h5⟩
      · subst h4; exact ⟨hn, by omega⟩
      · subst h5
        have hj : j < l.length := by rw [← h.same]; exact (List.getElem?_eq_some_iff.1 h4).1
        have hq := (h.last j q h4).2
        refine ⟨?_, ?_⟩
        · rw [app_toList, List.getLast?_append, hn]; rfl
        · rw [ByteArray.size_append, ByteArray.size_append]
          have : (⟨#[47]⟩ : ByteArray).size = 1 := rfl
          omega
def pathAt (ps : List ByteArray) (k : Nat) : ByteArray := ps.getD k ⟨#[]⟩
theorem pathAt_of {ps : List ByteArray} {k : Nat} {p : ByteArray} (h : ps[k]? = some p) : pathAt ps k = p := by
  unfold pathAt
  simp [List.getD, h]
theorem good_made {l : List Bx} {ps : List ByteArray} (h : Good l ps) : MadeOk l (pathAt ps) := by
  refine ⟨by have := h.few; omega, fun k b hk => (h.box k b hk).1, ?_, ?_, ?_, ?_⟩
  · intro k b hk
    rcases (h.box k b hk).2 with ⟨h3, h4⟩ | ⟨j, q, h3, h4, h5, h6⟩
    · exact .inl h3
    · exact .inr ⟨j, h3, h4⟩
  · intro k b hk h0
    rcases (h.box k b hk).2 with ⟨h3, h4⟩ | ⟨j, q, h3, h4, h5, h6⟩
    · rw [pathAt_of h4]
    · rw [h0] at h3; omega
  · intro k b j hk h0
    rcases (h.box k b hk).2 with ⟨h3, h4⟩ | ⟨j', q, h3, h4, h5, h6⟩
    · rw [h3] at h0; omega
    · have : j' = j := by rw [h3] at h0; omega
      subst this
      rw [pathAt_of h6, pathAt_of h5, app_toList, app_toList, (by rw [ByteArray.toList_eq] : (⟨#[47]⟩ : ByteArray).toList = [47])]
      simp
  · intro k hk
    have : k < ps.length := by rw [h.same]; exact hk
    have hp := h.last k ps[k] (List.getElem?_eq_getElem this)
    rw [pathAt_of (List.getElem?_eq_getElem this)]
    have := h.few
    have := hp.2
    omega
theorem lastB_inj {i k : Nat} (hi : i ≤ 21) (hk : k ≤ 21) (h : lastB i = lastB k) : i = k := by
  unfold lastB at h
  have e : ∀ n : Nat, n ≤ 200 → (UInt8.ofNat n).toNat = n := fun n hn => by simp; omega
  split at h
  · split at h
    · omega
    · have := congrArg UInt8.toNat h
      rw [e _ (by omega)] at this
      change 88 = _ at this
      omega
  · split at h
    · have := congrArg UInt8.toNat h
      rw [e _ (by omega)] at this
      change _ = 88 at this
      omega
    · have := congrArg UInt8.toNat h
      rw [e _ (by omega), e _ (by omega)] at this
      omega
theorem good_ne {l : List Bx} {ps : List ByteArray} (h : Good l ps) {i k : Nat} (hi : i < l.length) (hk : k < l.length) (hne : i ≠ k) : ((pathAt ps i).toList == (pathAt ps k).toList) = false := by
  have h1 : i < ps.length := by rw [h.same]; exact hi
  have h2 : k < ps.length := by rw [h.same]; exact hk
  have a := (h.last i _ (List.getElem?_eq_getElem h1)).1
  have b := (h.last k _ (List.getElem?_eq_getElem h2)).1
  rw [pathAt_of (List.getElem?_eq_getElem h1), pathAt_of (List.getElem?_eq_getElem h2), beq_eq_false_iff_ne]
  intro e
  rw [e, b] at a
  injection a with a
  have := h.few
  exact hne (lastB_inj (by omega) (by omega) a).symm
theorem good_some {l : List Bx} {ps : List ByteArray} (h : Good l ps) {k : Nat} (hk : k < l.length) : ¬ (pathAt ps k).toList = [] := by
  have h2 : k < ps.length := by rw [h.same]; exact hk
  have b := (h.last k _ (List.getElem?_eq_getElem h2)).1
  rw [pathAt_of (List.getElem?_eq_getElem h2)]
  intro e
  rw [e] at b
  cases b
end Go.Proofs.Ytlmelclfdafhbaa
