/- The walk of bare. -/
import Derived.Test.YtofkdeojabongaaDoorKeys
namespace Go.Proofs.YtofkdeojabongaaDoor
open Go.RowKit Go.PlainAid
set_option linter.unusedVariables false
set_option linter.unusedSimpArgs false
def bareF (k num : Int) (t : ByteArray) (a b : Nat) : Bool := (k == 4 || num == 0) && (k == 5 || decide (t = ⟨#[]⟩)) && (k == 7 || a == 0) && (k == 6 || k == 7 || b == 0)
set_option maxRecDepth 100000 in
set_option maxHeartbeats 1000000 in
theorem bare_any (k num : Int) (t : ByteArray) (A A2 : Option Addr) (a b ck cc : Nat) (w : World) :
    Calls Tryd.prog 43 #[.agg #[.int .i64 k, .int .i64 num, .string t, .slice A a ck, .slice A2 b cc]] w fun e w' => e = .returned (.bool (bareF k num t a b)) ∧ Below w.heap.size w w' := by
  have hW := Below.refl w.heap.size w
  obtain ⟨V, hV⟩ : ∃ V, V = bareF k num t a b := ⟨_, rfl⟩
  rw [← hV]
  by_cases h4 : k = 4
  · subst h4
    by_cases ht : t = ⟨#[]⟩
    case neg =>
      have ht2 : decide (t = ⟨#[]⟩) = false := decide_eq_false ht
      have ht3 : ¬ t.toList = [] := fun h => ht (by cases t with | mk d => rw [ByteArray.toList_eq] at h; simp at h; rw [h])
      have ht4 : t.toList.isEmpty = false := by simp [ht3]
      have e : V = false := by rw [hV]; simp [bareF, *]
      clear hV
      go_enter Tryd.func43, Tryd.ntmps43
      go_wp2_with fail
      go_ret
      exact ⟨by rw [e]; first | rfl | (simp; done) | (simp; omega), hW.alloc hW.size _⟩
    have ht3 : t.toList = [] := by rw [ht, ByteArray.toList_eq]
    have ht4 : t.toList.isEmpty = true := by rw [ht3]; rfl
    by_cases ha : a = 0
    case neg =>
      have ha2 : decide ((a : Int) = 0) = false := by simp; omega
      have e : V = false := by rw [hV]; simp [bareF, *]
      clear hV
      go_enter Tryd.func43, Tryd.ntmps43
      go_wp2_with fail
      go_ret
      exact ⟨by rw [e]; first | rfl | (simp; done) | (simp; omega), hW.alloc hW.size _⟩
    subst ha
    by_cases hb : b = 0
    case neg =>
      have hb2 : decide ((b : Int) = 0) = false := by simp; omega
      have e : V = false := by rw [hV]; simp [bareF, *]
      clear hV
      go_enter Tryd.func43, Tryd.ntmps43
      go_wp2_with fail
      go_ret
      exact ⟨by rw [e]; first | rfl | (simp; done) | (simp; omega), hW.alloc hW.size _⟩
    subst hb
    have e : V = true := by rw [hV]; simp [bareF, *]
    clear hV
    go_enter Tryd.func43, Tryd.ntmps43
    go_wp2_with fail
    go_ret
    exact ⟨by rw [e]; first | rfl | (simp; done) | (simp; omega), hW.alloc hW.size _⟩
  by_cases h5 : k = 5
  · subst h5
    by_cases hn : num = 0
    case neg =>
      have e : V = false := by rw [hV]; simp [bareF, *]
      clear hV
      go_enter Tryd.func43, Tryd.ntmps43
      go_wp2_with fail
      go_ret
      exact ⟨by rw [e]; first | rfl | (simp; done) | (simp; omega), hW.alloc hW.size _⟩
    subst hn
    by_cases ha : a = 0
    case neg =>
      have ha2 : decide ((a : Int) = 0) = false := by simp; omega
      have e : V = false := by rw [hV]; simp [bareF, *]
      clear hV
      go_enter Tryd.func43, Tryd.ntmps43
      go_wp2_with fail
      go_ret
      exact ⟨by rw [e]; first | rfl | (simp; done) | (simp; omega), hW.alloc hW.size _⟩
    subst ha
    by_cases hb : b = 0
    case neg =>
      have hb2 : decide ((b : Int) = 0) = false := by simp; omega
      have e : V = false := by rw [hV]; simp [bareF, *]
      clear hV
      go_enter Tryd.func43, Tryd.ntmps43
      go_wp2_with fail
      go_ret
      exact ⟨by rw [e]; first | rfl | (simp; done) | (simp; omega), hW.alloc hW.size _⟩
    subst hb
    have e : V = true := by rw [hV]; simp [bareF, *]
    clear hV
    go_enter Tryd.func43, Tryd.ntmps43
    go_wp2_with fail
    go_ret
    exact ⟨by rw [e]; first | rfl | (simp; done) | (simp; omega), hW.alloc hW.size _⟩
  by_cases h6 : k = 6
  · subst h6
    by_cases hn : num = 0
    case neg =>
      have e : V = false := by rw [hV]; simp [bareF, *]
      clear hV
      go_enter Tryd.func43, Tryd.ntmps43
      go_wp2_with fail
      go_ret
      exact ⟨by rw [e]; first | rfl | (simp; done) | (simp; omega), hW.alloc hW.size _⟩
    subst hn
    by_cases ht : t = ⟨#[]⟩
    case neg =>
      have ht2 : decide (t = ⟨#[]⟩) = false := decide_eq_false ht
      have ht3 : ¬ t.toList = [] := fun h => ht (by cases t with | mk d => rw [ByteArray.toList_eq] at h; simp at h; rw [h])
      have ht4 : t.toList.isEmpty = false := by simp [ht3]
      have e : V = false := by rw [hV]; simp [bareF, *]
      clear hV
      go_enter Tryd.func43, Tryd.ntmps43
      go_wp2_with fail
      go_ret
      exact ⟨by rw [e]; first | rfl | (simp; done) | (simp; omega), hW.alloc hW.size _⟩
    have ht3 : t.toList = [] := by rw [ht, ByteArray.toList_eq]
    have ht4 : t.toList.isEmpty = true := by rw [ht3]; rfl
    by_cases ha : a = 0
    case neg =>
      have ha2 : decide ((a : Int) = 0) = false := by simp; omega
      have e : V = false := by rw [hV]; simp [bareF, *]
      clear hV
      go_enter Tryd.func43, Tryd.ntmps43
      go_wp2_with fail
      go_ret
      exact ⟨by rw [e]; first | rfl | (simp; done) | (simp; omega), hW.alloc hW.size _⟩
    subst ha
    have e : V = true := by rw [hV]; simp [bareF, *]
    clear hV
    go_enter Tryd.func43, Tryd.ntmps43
    go_wp2_with fail
    go_ret
    exact ⟨by rw [e]; first | rfl | (simp; done) | (simp; omega), hW.alloc hW.size _⟩
  by_cases h7 : k = 7
  · subst h7
    by_cases hn : num = 0
    case neg =>
      have e : V = false := by rw [hV]; simp [bareF, *]
      clear hV
      go_enter Tryd.func43, Tryd.ntmps43
      go_wp2_with fail
      go_ret
      exact ⟨by rw [e]; first | rfl | (simp; done) | (simp; omega), hW.alloc hW.size _⟩
    subst hn
    by_cases ht : t = ⟨#[]⟩
    case neg =>
      have ht2 : decide (t = ⟨#[]⟩) = false := decide_eq_false ht
      have ht3 : ¬ t.toList = [] := fun h => ht (by cases t with | mk d => rw [ByteArray.toList_eq] at h; simp at h; rw [h])
      have ht4 : t.toList.isEmpty = false := by simp [ht3]
      have e : V = false := by rw [hV]; simp [bareF, *]
      clear hV
      go_enter Tryd.func43, Tryd.ntmps43
      go_wp2_with fail
      go_ret
      exact ⟨by rw [e]; first | rfl | (simp; done) | (simp; omega), hW.alloc hW.size _⟩
    have ht3 : t.toList = [] := by rw [ht, ByteArray.toList_eq]
    have ht4 : t.toList.isEmpty = true := by rw [ht3]; rfl
    have e : V = true := by rw [hV]; simp [bareF, *]
    clear hV
    go_enter Tryd.func43, Tryd.ntmps43
    go_wp2_with fail
    go_ret
    exact ⟨by rw [e]; first | rfl | (simp; done) | (simp; omega), hW.alloc hW.size _⟩
  by_cases hn : num = 0
  case neg =>
    have e : V = false := by rw [hV]; simp [bareF, *]
    clear hV
    go_enter Tryd.func43, Tryd.ntmps43
    go_wp2_with fail
    go_ret
    exact ⟨by rw [e]; first | rfl | (simp; done) | (simp; omega), hW.alloc hW.size _⟩
  subst hn
  by_cases ht : t = ⟨#[]⟩
  case neg =>
    have ht2 : decide (t = ⟨#[]⟩) = false := decide_eq_false ht
    have ht3 : ¬ t.toList = [] := fun h => ht (by cases t with | mk d => rw [ByteArray.toList_eq] at h; simp at h; rw [h])
    have ht4 : t.toList.isEmpty = false := by simp [ht3]
    have e : V = false := by rw [hV]; simp [bareF, *]
    clear hV
    go_enter Tryd.func43, Tryd.ntmps43
    go_wp2_with fail
    go_ret
    exact ⟨by rw [e]; first | rfl | (simp; done) | (simp; omega), hW.alloc hW.size _⟩
  have ht3 : t.toList = [] := by rw [ht, ByteArray.toList_eq]
  have ht4 : t.toList.isEmpty = true := by rw [ht3]; rfl
  by_cases ha : a = 0
  case neg =>
    have ha2 : decide ((a : Int) = 0) = false := by simp; omega
    have e : V = false := by rw [hV]; simp [bareF, *]
    clear hV
    go_enter Tryd.func43, Tryd.ntmps43
    go_wp2_with fail
    go_ret
    exact ⟨by rw [e]; first | rfl | (simp; done) | (simp; omega), hW.alloc hW.size _⟩
  subst ha
  by_cases hb : b = 0
  case neg =>
    have hb2 : decide ((b : Int) = 0) = false := by simp; omega
    have e : V = false := by rw [hV]; simp [bareF, *]
    clear hV
    go_enter Tryd.func43, Tryd.ntmps43
    go_wp2_with fail
    go_ret
    exact ⟨by rw [e]; first | rfl | (simp; done) | (simp; omega), hW.alloc hW.size _⟩
  subst hb
  have e : V = true := by rw [hV]; simp [bareF, *]
  clear hV
  go_enter Tryd.func43, Tryd.ntmps43
  go_wp2_with fail
  go_ret
  exact ⟨by rw [e]; first | rfl | (simp; done) | (simp; omega), hW.alloc hW.size _⟩
end Go.Proofs.YtofkdeojabongaaDoor
