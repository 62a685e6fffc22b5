/- Texts of one seat, one behind the other: Keys, Bare, Right0, Right1, Right2, Cprint, Rq, Rref1, Rref2, Rref3, Rref, Rput0, Jspec, Sizes. No condition. -/
import Derived.Test.YtnbfagignbbmfaaDoorQ1
import Derived.StringKeys
import Derived.Lib.OwnKind
import Derived.Deep.RegionLaw
import Derived.Deep.RegionWith
import Derived.Deep.RegionHeld3
/-! The walk of keys: whether an object's keys may be. -/
namespace Go.Proofs.YtnbfagignbbmfaaDoor
open Go.RowKit Go.PlainAid
open Go.Maps (Keyed)
open Go.ChangeMaps Go.MapKept
set_option linter.unusedVariables false
set_option linter.unusedSimpArgs false
open Classical in
/-- whether keys may be: unlike ones, each valid -/
noncomputable def keysB (ks : List ByteArray) : Bool := decide (ks.Nodup ∧ ∀ s ∈ ks, validB s.toList = true)
theorem keysB_twice {ks : List ByteArray} {i : Nat} {s : ByteArray} (hs : ks[i]? = some s) (hm : s ∈ ks.take i) : keysB ks = false := by
  unfold keysB
  refine decide_eq_false fun ⟨hn, _⟩ => ?_
  rw [← List.take_append_drop i ks, List.nodup_append] at hn
  refine hn.2.2 s hm s ?_ rfl
  rw [List.drop_eq_getElem_cons (List.getElem?_eq_some_iff.1 hs).1, (List.getElem?_eq_some_iff.1 hs).2]
  exact List.mem_cons_self
theorem keysB_bad {ks : List ByteArray} {i : Nat} {s : ByteArray} (hs : ks[i]? = some s) (hm : validB s.toList = false) : keysB ks = false := by
  unfold keysB
  refine decide_eq_false fun ⟨_, h⟩ => ?_
  rw [h s (List.mem_of_getElem? hs)] at hm
  cases hm
theorem take_snoc {α : Type} {l : List α} {i : Nat} {s : α} (hs : l[i]? = some s) : l.take (i + 1) = l.take i ++ [s] := by
  rw [List.take_add_one, hs]; rfl
theorem keyLaw : Keyed Tryd.prog 9 := Maps.string_keyed Tryd.underlying9
theorem zeroBool (w : World) : (zeroValue 4).run Tryd.prog w = .ok (.bool false) w := by kernel_rfl
open Classical in
/-- a map that holds just the keys of a list -/
def Seen (l : List ByteArray) (D : DataW Nat) : Prop := ∀ s : ByteArray, D.atKey (.string s.data.toList) (.lit (.bool false)) = .lit (.bool (decide (s ∈ l)))
theorem seen_nil : Seen [] (.map []) := fun s => by simp [DataW.atKey]
theorem seen_put {l : List ByteArray} {D : DataW Nat} (h : Seen l D) (hm : Maps.IsMap D) (s : ByteArray) : Seen (l ++ [s]) (D.put (.string s.data.toList) (.lit (.bool true))) := by
  intro u
  by_cases e : u = s
  · subst e
    rw [Maps.atKey_put_same hm (by trivial)]
    simp
  · have hne : (Lit.string u.data.toList) ≠ .string s.data.toList := by
      intro h
      injection h with h
      apply e
      cases u; cases s; simp at h; rw [h]
    rw [Maps.atKey_put_other hne, h u]
    simp [e]
set_option maxRecDepth 100000 in
set_option maxHeartbeats 1000000 in
theorem keys_any (ks : List ByteArray) (A : Option Addr) (ck B : Nat) (w : World) (hks : Reads w B 1 A ks.length (ks.map Value.string)) (hsz : ∀ s ∈ ks, s.size ≤ 9223372036854775807) (hl : ks.length ≤ 9223372036854775807) (hB : B ≤ w.heap.size) :
    Calls Tryd.prog 67 #[.slice A ks.length ck] w fun e w' => e = .returned (.bool (keysB ks)) ∧ Below w.heap.size w w' := by
  have hmm := @run_makeMap Tryd.prog
  have HKS := Lib.hid hks
  have HSZ := Lib.hid hsz
  clear hks hsz
  go_enter Tryd.func67, Tryd.ntmps67
  go_wp2
  go_loopw [9] (fun t wr => ∃ (i : Nat) (D : DataW Nat), i ≤ ks.length ∧ t = .int .i64 i ∧ wr.ownsMap Tryd.prog 9 (plainElem Tryd.prog 4) w.heap.size i D ∧ Hid (Seen (ks.take i) D) ∧ Hid ((ks.take i).Nodup ∧ ∀ s ∈ ks.take i, validB s.toList = true) ∧ Below w.heap.size w wr)
    (fun t _ => ks.length - (intOf t).toNat)
  case atStart => exact ⟨0, _, Nat.zero_le _, rfl, World.ownsMap_made _ _ _ _, seen_nil, by constructor <;> simp, (Below.refl _ _).alloc (Nat.le_refl _) _⟩
  case round =>
    obtain ⟨i, D, hi, rfl, hown, hsn, hgd, hbw⟩ := hrel
    obtain ⟨wo, rfl⟩ : ∃ wo : World, wo = wr := ⟨_, rfl⟩
    by_cases hlt : i < ks.length
    · obtain ⟨ad, s, rfl, hadb, hks, hc⟩ := (HKS.out.keep fun p hp => hbw.cell (by omega)).str hlt
      have hss := HSZ.out s (List.mem_of_getElem? hks)
      have hkey : keyOf Tryd.prog 9 (.string s) = some (.string s.data.toList) := WideMaps.keyOf_string_mk Tryd.underlying9 (by unfold maxLen; omega)
      have HAT := Lib.hid (hsn.out s)
      have HS := Lib.hid hks
      clear hks
      by_cases hm : s ∈ ks.take i
      · have hv := keysB_twice HS.out hm
        go_wp2_with (first
          | (at_lookup; refine wpList_lookup_own_bool _ rfl _ _ 107 rfl 9 4 keyLaw Tryd.underlying107 Tryd.underlying4 (zeroBool _) w.heap.size i _ rfl hown _ _ rfl hkey ?_; intro c hat; obtain rfl : c = true := by (have h1 := HAT.out; rw [hat] at h1; simpa [hm] using h1))
          | fail)
        go_ret
        exact ⟨by rw [hv]; rfl, hbw⟩
      · have HV := Lib.hid (valid_any s wo (by omega))
        cases hvb : validB s.toList with
        | false =>
          have hv := keysB_bad HS.out hvb
          go_wp2_with (first
            | (at_lookup; refine wpList_lookup_own_bool _ rfl _ _ 107 rfl 9 4 keyLaw Tryd.underlying107 Tryd.underlying4 (zeroBool _) w.heap.size i _ rfl hown _ _ rfl hkey ?_; intro c hat; obtain rfl : c = false := by (have h1 := HAT.out; rw [hat] at h1; simpa [hm] using h1))
            | fail)
          refine HV.out.mono ?_; rintro e w1 ⟨rfl, hw1⟩
          rw [hvb]
          go_wp2_with fail
          go_ret
          exact ⟨by rw [hv]; rfl, hbw.trans (hw1.mono hbw.size)⟩
        | true =>
          go_wp2_with (first
            | (at_lookup; refine wpList_lookup_own_bool _ rfl _ _ 107 rfl 9 4 keyLaw Tryd.underlying107 Tryd.underlying4 (zeroBool _) w.heap.size i _ rfl hown _ _ rfl hkey ?_; intro c hat; obtain rfl : c = false := by (have h1 := HAT.out; rw [hat] at h1; simpa [hm] using h1))
            | fail)
          refine HV.out.mono ?_; rintro e w1 ⟨rfl, hw1⟩
          rw [hvb]
          have hg : wo.grownBy w1 none := ⟨hw1.os, hw1.tape, hw1.output, hw1.size, fun k hk _ => hw1.block k hk⟩
          have hown1 := hown.kept hg (by simp)
          have hb1 : Below w.heap.size w w1 := hbw.trans (hw1.mono hbw.size)
          go_wp2_with (first
            | (at_mapUpdate; refine wpList_mapUpdate_own _ rfl _ _ _ 107 rfl 9 4 keyLaw Tryd.underlying107 _ w.heap.size i _ rfl hown1 (by unfold maxLen; omega) _ _ _ rfl rfl hkey _ [] (plainElem_bool Tryd.underlying4 true) ?_; intro w2 hown2 hgrow2)
            | fail)
          go_roundw
          case rel =>
            refine ⟨i + 1, _, by omega, by go_num, hown2, ?_, ?_, hb1.grown hgrow2 hb1.size (fun j hj => by cases hj; exact Nat.le_refl _)⟩
            · rw [take_snoc HS.out]; exact seen_put hsn.out hown1.isMap s
            · rw [take_snoc HS.out]
              refine ⟨?_, ?_⟩
              · rw [List.nodup_append]
                refine ⟨hgd.out.1, by simp, ?_⟩
                intro a ha b hb e
                simp at hb
                subst hb; subst e; exact hm ha
              · intro u hu
                rw [List.mem_append] at hu
                rcases hu with hu | hu
                · exact hgd.out.2 u hu
                · simp at hu; subst hu; exact hvb
          case measure => simp [intOf]; omega
    · have hik : i = ks.length := by omega
      have hv : keysB ks = true := by
        unfold keysB
        have h := hgd.out
        rw [List.take_of_length_le (by omega)] at h
        exact decide_eq_true h
      go_wp2_with fail
      go_ret
      exact ⟨by rw [hv]; rfl, hbw⟩
end Go.Proofs.YtnbfagignbbmfaaDoor
/-! The walk of bare. -/
namespace Go.Proofs.YtnbfagignbbmfaaDoor
open Go.RowKit Go.PlainAid
set_option linter.unusedVariables false
set_option linter.unusedSimpArgs false
def bareF (k num : Int) (t : ByteArray) (a b : Nat) : Bool := (k == 4 || num == 0) && (k == 5 || decide (t = ⟨#[]⟩)) && (k == 7 || a == 0) && (k == 6 || k == 7 || b == 0)
set_option maxRecDepth 100000 in
set_option maxHeartbeats 1000000 in
theorem bare_any (k num : Int) (t : ByteArray) (A A2 : Option Addr) (a b ck cc : Nat) (w : World) :
    Calls Tryd.prog 65 #[.agg #[.int .i64 k, .int .i64 num, .string t, .slice A a ck, .slice A2 b cc]] w fun e w' => e = .returned (.bool (bareF k num t a b)) ∧ Below w.heap.size w w' := by
  have hW := Below.refl w.heap.size w
  obtain ⟨V, hV⟩ : ∃ V, V = bareF k num t a b := ⟨_, rfl⟩
  rw [← hV]
  by_cases h4 : k = 4
  · subst h4
    by_cases ht : t = ⟨#[]⟩
    case neg =>
      have ht2 : decide (t = ⟨#[]⟩) = false := decide_eq_false ht
      have ht3 : ¬ t.toList = [] := fun h => ht (by cases t with | mk d => rw [ByteArray.toList_eq] at h; simp at h; rw [h])
      have ht4 : t.toList.isEmpty = false := by simp [ht3]
      have e : V = false := by rw [hV]; simp [bareF, *]
      clear hV
      go_enter Tryd.func65, Tryd.ntmps65
      go_wp2_with fail
      go_ret
      exact ⟨by rw [e]; first | rfl | (simp; done) | (simp; omega), hW.alloc hW.size _⟩
    have ht3 : t.toList = [] := by rw [ht, ByteArray.toList_eq]
    have ht4 : t.toList.isEmpty = true := by rw [ht3]; rfl
    by_cases ha : a = 0
    case neg =>
      have ha2 : decide ((a : Int) = 0) = false := by simp; omega
      have e : V = false := by rw [hV]; simp [bareF, *]
      clear hV
      go_enter Tryd.func65, Tryd.ntmps65
      go_wp2_with fail
      go_ret
      exact ⟨by rw [e]; first | rfl | (simp; done) | (simp; omega), hW.alloc hW.size _⟩
    subst ha
    by_cases hb : b = 0
    case neg =>
      have hb2 : decide ((b : Int) = 0) = false := by simp; omega
      have e : V = false := by rw [hV]; simp [bareF, *]
      clear hV
      go_enter Tryd.func65, Tryd.ntmps65
      go_wp2_with fail
      go_ret
      exact ⟨by rw [e]; first | rfl | (simp; done) | (simp; omega), hW.alloc hW.size _⟩
    subst hb
    have e : V = true := by rw [hV]; simp [bareF, *]
    clear hV
    go_enter Tryd.func65, Tryd.ntmps65
    go_wp2_with fail
    go_ret
    exact ⟨by rw [e]; first | rfl | (simp; done) | (simp; omega), hW.alloc hW.size _⟩
  by_cases h5 : k = 5
  · subst h5
    by_cases hn : num = 0
    case neg =>
      have e : V = false := by rw [hV]; simp [bareF, *]
      clear hV
      go_enter Tryd.func65, Tryd.ntmps65
      go_wp2_with fail
      go_ret
      exact ⟨by rw [e]; first | rfl | (simp; done) | (simp; omega), hW.alloc hW.size _⟩
    subst hn
    by_cases ha : a = 0
    case neg =>
      have ha2 : decide ((a : Int) = 0) = false := by simp; omega
      have e : V = false := by rw [hV]; simp [bareF, *]
      clear hV
      go_enter Tryd.func65, Tryd.ntmps65
      go_wp2_with fail
      go_ret
      exact ⟨by rw [e]; first | rfl | (simp; done) | (simp; omega), hW.alloc hW.size _⟩
    subst ha
    by_cases hb : b = 0
    case neg =>
      have hb2 : decide ((b : Int) = 0) = false := by simp; omega
      have e : V = false := by rw [hV]; simp [bareF, *]
      clear hV
      go_enter Tryd.func65, Tryd.ntmps65
      go_wp2_with fail
      go_ret
      exact ⟨by rw [e]; first | rfl | (simp; done) | (simp; omega), hW.alloc hW.size _⟩
    subst hb
    have e : V = true := by rw [hV]; simp [bareF, *]
    clear hV
    go_enter Tryd.func65, Tryd.ntmps65
    go_wp2_with fail
    go_ret
    exact ⟨by rw [e]; first | rfl | (simp; done) | (simp; omega), hW.alloc hW.size _⟩
  by_cases h6 : k = 6
  · subst h6
    by_cases hn : num = 0
    case neg =>
      have e : V = false := by rw [hV]; simp [bareF, *]
      clear hV
      go_enter Tryd.func65, Tryd.ntmps65
      go_wp2_with fail
      go_ret
      exact ⟨by rw [e]; first | rfl | (simp; done) | (simp; omega), hW.alloc hW.size _⟩
    subst hn
    by_cases ht : t = ⟨#[]⟩
    case neg =>
      have ht2 : decide (t = ⟨#[]⟩) = false := decide_eq_false ht
      have ht3 : ¬ t.toList = [] := fun h => ht (by cases t with | mk d => rw [ByteArray.toList_eq] at h; simp at h; rw [h])
      have ht4 : t.toList.isEmpty = false := by simp [ht3]
      have e : V = false := by rw [hV]; simp [bareF, *]
      clear hV
      go_enter Tryd.func65, Tryd.ntmps65
      go_wp2_with fail
      go_ret
      exact ⟨by rw [e]; first | rfl | (simp; done) | (simp; omega), hW.alloc hW.size _⟩
    have ht3 : t.toList = [] := by rw [ht, ByteArray.toList_eq]
    have ht4 : t.toList.isEmpty = true := by rw [ht3]; rfl
    by_cases ha : a = 0
    case neg =>
      have ha2 : decide ((a : Int) = 0) = false := by simp; omega
      have e : V = false := by rw [hV]; simp [bareF, *]
      clear hV
      go_enter Tryd.func65, Tryd.ntmps65
      go_wp2_with fail
      go_ret
      exact ⟨by rw [e]; first | rfl | (simp; done) | (simp; omega), hW.alloc hW.size _⟩
    subst ha
    have e : V = true := by rw [hV]; simp [bareF, *]
    clear hV
    go_enter Tryd.func65, Tryd.ntmps65
    go_wp2_with fail
    go_ret
    exact ⟨by rw [e]; first | rfl | (simp; done) | (simp; omega), hW.alloc hW.size _⟩
  by_cases h7 : k = 7
  · subst h7
    by_cases hn : num = 0
    case neg =>
      have e : V = false := by rw [hV]; simp [bareF, *]
      clear hV
      go_enter Tryd.func65, Tryd.ntmps65
      go_wp2_with fail
      go_ret
      exact ⟨by rw [e]; first | rfl | (simp; done) | (simp; omega), hW.alloc hW.size _⟩
    subst hn
    by_cases ht : t = ⟨#[]⟩
    case neg =>
      have ht2 : decide (t = ⟨#[]⟩) = false := decide_eq_false ht
      have ht3 : ¬ t.toList = [] := fun h => ht (by cases t with | mk d => rw [ByteArray.toList_eq] at h; simp at h; rw [h])
      have ht4 : t.toList.isEmpty = false := by simp [ht3]
      have e : V = false := by rw [hV]; simp [bareF, *]
      clear hV
      go_enter Tryd.func65, Tryd.ntmps65
      go_wp2_with fail
      go_ret
      exact ⟨by rw [e]; first | rfl | (simp; done) | (simp; omega), hW.alloc hW.size _⟩
    have ht3 : t.toList = [] := by rw [ht, ByteArray.toList_eq]
    have ht4 : t.toList.isEmpty = true := by rw [ht3]; rfl
    have e : V = true := by rw [hV]; simp [bareF, *]
    clear hV
    go_enter Tryd.func65, Tryd.ntmps65
    go_wp2_with fail
    go_ret
    exact ⟨by rw [e]; first | rfl | (simp; done) | (simp; omega), hW.alloc hW.size _⟩
  by_cases hn : num = 0
  case neg =>
    have e : V = false := by rw [hV]; simp [bareF, *]
    clear hV
    go_enter Tryd.func65, Tryd.ntmps65
    go_wp2_with fail
    go_ret
    exact ⟨by rw [e]; first | rfl | (simp; done) | (simp; omega), hW.alloc hW.size _⟩
  subst hn
  by_cases ht : t = ⟨#[]⟩
  case neg =>
    have ht2 : decide (t = ⟨#[]⟩) = false := decide_eq_false ht
    have ht3 : ¬ t.toList = [] := fun h => ht (by cases t with | mk d => rw [ByteArray.toList_eq] at h; simp at h; rw [h])
    have ht4 : t.toList.isEmpty = false := by simp [ht3]
    have e : V = false := by rw [hV]; simp [bareF, *]
    clear hV
    go_enter Tryd.func65, Tryd.ntmps65
    go_wp2_with fail
    go_ret
    exact ⟨by rw [e]; first | rfl | (simp; done) | (simp; omega), hW.alloc hW.size _⟩
  have ht3 : t.toList = [] := by rw [ht, ByteArray.toList_eq]
  have ht4 : t.toList.isEmpty = true := by rw [ht3]; rfl
  by_cases ha : a = 0
  case neg =>
    have ha2 : decide ((a : Int) = 0) = false := by simp; omega
    have e : V = false := by rw [hV]; simp [bareF, *]
    clear hV
    go_enter Tryd.func65, Tryd.ntmps65
    go_wp2_with fail
    go_ret
    exact ⟨by rw [e]; first | rfl | (simp; done) | (simp; omega), hW.alloc hW.size _⟩
  subst ha
  by_cases hb : b = 0
  case neg =>
    have hb2 : decide ((b : Int) = 0) = false := by simp; omega
    have e : V = false := by rw [hV]; simp [bareF, *]
    clear hV
    go_enter Tryd.func65, Tryd.ntmps65
    go_wp2_with fail
    go_ret
    exact ⟨by rw [e]; first | rfl | (simp; done) | (simp; omega), hW.alloc hW.size _⟩
  subst hb
  have e : V = true := by rw [hV]; simp [bareF, *]
  clear hV
  go_enter Tryd.func65, Tryd.ntmps65
  go_wp2_with fail
  go_ret
  exact ⟨by rw [e]; first | rfl | (simp; done) | (simp; omega), hW.alloc hW.size _⟩
end Go.Proofs.YtnbfagignbbmfaaDoor
/-! Whether a node may stand within so many others: as a plain function. -/
namespace Go.Proofs.YtnbfagignbbmfaaDoor
open Go.RowKit Go.PlainAid
set_option linter.unusedVariables false
set_option linter.unusedSimpArgs false
mutual
/-- whether a node may stand within so many others -/
noncomputable def rightN (most : Int) (nest : Int) : Nd → Int → Bool
  | .mk k num t ks ns, deep => bareF k num t ks.length ns.length &&
    (k == 1 || k == 2 || k == 3 || (k == 4 && decide (-most ≤ num ∧ num ≤ most)) || (k == 5 && validB t.toList) ||
      ((k == 6 || k == 7) && decide (deep < nest) && (k == 6 || (decide (ks.length = ns.length) && keysB ks)) && rightL most nest ns (deep + 1)))
noncomputable def rightL (most : Int) (nest : Int) : List Nd → Int → Bool
  | [], _ => true
  | n :: ns, deep => rightN most nest n deep && rightL most nest ns deep
end
theorem rightL_all (most nest : Int) (ns : List Nd) (deep : Int) : rightL most nest ns deep = ns.all (fun n => rightN most nest n deep) := by
  induction ns with
  | nil => unfold rightL; rfl
  | cons n ns ih => unfold rightL; rw [ih]; rfl
theorem rightL_bad (most nest : Int) (ns : List Nd) (deep : Int) (i : Nat) (n : Nd) (h : ns[i]? = some n) (hb : rightN most nest n deep = false) : rightL most nest ns deep = false := by
  rw [rightL_all, List.all_eq_false]
  exact ⟨n, List.mem_of_getElem? h, by simp [hb]⟩
end Go.Proofs.YtnbfagignbbmfaaDoor
/-! The walk of canon's right. -/
namespace Go.Proofs.YtnbfagignbbmfaaDoor
open Go.RowKit Go.PlainAid
set_option linter.unusedVariables false
set_option linter.unusedSimpArgs false
noncomputable def rightD (n : Nd) (deep : Int) : Bool := rightN 9007199254740991 24 n deep
noncomputable def rightLD (ns : List Nd) (deep : Int) : Bool := rightL 9007199254740991 24 ns deep
theorem rightLD_nil (deep : Int) : rightLD [] deep = true := by unfold rightLD rightL; rfl
theorem rightLD_at (ns : List Nd) (i : Nat) (n : Nd) (deep : Int) (h : ns[i]? = some n) : rightLD (ns.drop i) deep = (rightD n deep && rightLD (ns.drop (i + 1)) deep) := by
  rw [List.drop_eq_getElem_cons (List.getElem?_eq_some_iff.1 h).1, (List.getElem?_eq_some_iff.1 h).2]
  unfold rightLD rightD
  conv => lhs; unfold rightL
def RightC (vs : Array Value) (deep : Int) (b : Bool) (w : World) : Prop := Calls Tryd.prog 45 #[.agg vs, .int .i64 deep] w (BoolBel b w)
def OddC (vs : Array Value) (p : Addr) (b : Bool) (w : World) : Prop := Calls Tryd.prog 68 #[.agg vs, .pointer (some p)] w (BoolBel b w)
set_option maxRecDepth 100000 in
set_option maxHeartbeats 1000000 in
theorem cright1_any (n : Nd) (cs : List Value) (w : World) (B : Nat) (deep : Int) (p : Addr) (hn : NdIs w B n cs) (hB : B ≤ w.heap.size) (hc : w.cell? p = some (.int .i64 deep)) (hp : p.block < w.heap.size) (d0 : 0 ≤ deep) (d1 : deep < 24)
    (HIH : Hid (∀ w', NdIs w' B n cs → B ≤ w'.heap.size → RightC cs.toArray (deep + 1) (rightD n (deep + 1)) w')) : OddC cs.toArray p (!rightD n (deep + 1)) w := by
  have hl := hn.len
  match cs, hl with
  | [v0, v1, v2, v3, v4], _ =>
    have hW := Below.refl w.heap.size w
    have HC : Hid (∀ w', Below w.heap.size w w' → RightC #[v0, v1, v2, v3, v4] (deep + 1) (rightD n (deep + 1)) w') := fun w' hb => HIH.out w' (hn.below (hb.mono hB)) (by have := hb.size; omega)
    obtain ⟨x0, x1, x2, x3, x4, x5, x6, x7, x8, rfl, rfl, rfl, rfl, rfl⟩ := hn.form
    show Calls Tryd.prog 68 #[.agg #[_, _, _, _, _], .pointer (some p)] w (BoolBel _ w)
    have hne : ¬ p.block = w.heap.size := by omega
    clear hn
    generalize rightD n (deep + 1) = V at *
    go_enter Tryd.func68, Tryd.ntmps68
    go_wp2_with fail
    refine (HC.out _ (hW.alloc (Nat.le_refl _) _)).mono ?_; rintro e w1 ⟨rfl, hw1⟩
    go_wp2_with fail
    go_ret
    exact ⟨rfl, nextA hW hw1⟩
def IdxPost (b : Bool) (w : World) (e : Ending) (w' : World) : Prop := ∃ v : Int, e = .returned (.int .i64 v) ∧ decide (0 ≤ v) = !b ∧ Below w.heap.size w w'
set_option maxRecDepth 100000 in
set_option maxHeartbeats 1000000 in
theorem sIndexFunc_right (ns : List Nd) (A : Option Addr) (cc : Nat) (xs : List Value) (w : World) (B : Nat) (deep : Int) (p : Addr) (hxs : Reads w B 5 A ns.length xs) (hns : NdsIs w B ns xs) (hB : B ≤ w.heap.size) (hk : ns.length ≤ 9223372036854775807)
    (hc : w.cell? p = some (.int .i64 deep)) (hp : p.block < w.heap.size) (d0 : 0 ≤ deep) (d1 : deep < 24)
    (HIH : Hid (∀ (i : Nat) (n : Nd) (cs : List Value) (w' : World), ns[i]? = some n → NdIs w' B n cs → B ≤ w'.heap.size → RightC cs.toArray (deep + 1) (rightD n (deep + 1)) w')) :
    Calls Tryd.prog 79 #[.slice A ns.length cc, .func (.func 68) #[] #[.pointer (some p)]] w (IdxPost (rightLD ns (deep + 1)) w) := by
  have hW := Below.refl w.heap.size w
  obtain ⟨V, hV⟩ : ∃ V, V = rightLD ns (deep + 1) := ⟨_, rfl⟩
  rw [← hV]
  have HV : Hid (V = rightLD (ns.drop 0) (deep + 1)) := hV
  have HXS := Lib.hid hxs
  have HNS := Lib.hid hns
  have HD : Hid (0 ≤ deep ∧ deep < 24) := ⟨d0, d1⟩
  have HC := Lib.hid hc
  clear hxs hns hV d0 d1 hc
  go_enter Tryd.func79, Tryd.ntmps79
  go_wp2_with fail
  go_loopw [8] (fun t wr => ∃ (i : Nat), i ≤ ns.length ∧ t = .int .i64 i ∧ Hid (V = rightLD (ns.drop i) (deep + 1)) ∧ Below w.heap.size w wr) (fun t _ => ns.length - (intOf t).toNat)
  case atStart => exact ⟨0, by omega, rfl, HV, hW⟩
  case round =>
    clear hW
    obtain ⟨i, hi, rfl, hv, hW⟩ := hrel
    obtain ⟨wo, rfl⟩ : ∃ wo : World, wo = wr := ⟨_, rfl⟩
    have hsz := hW.size
    by_cases hlt : i < ns.length
    · have hkeep : ∀ p : Addr, p.block < B → wo.cell? p = w.cell? p := fun p hp => hW.cell (by omega)
      obtain ⟨ad, n, v0, v1, v2, v3, v4, rfl, hadb, hni, hnd, e0, e1, e2, e3, e4⟩ := (HXS.out.keep hkeep).nd (NdsIs.keep hkeep _ _ HNS.out) hlt
      have HSTEP := Lib.hid (rightLD_at ns i n (deep + 1) hni)
      have HO : Hid (∀ w', Below wo.heap.size wo w' → OddC #[v0, v1, v2, v3, v4] p (!rightD n (deep + 1)) w') := fun w' hb =>
        cright1_any n [v0, v1, v2, v3, v4] w' B deep p (hnd.below (hb.mono (by omega))) (by have := hb.size; omega) ((hb.cell (by omega)).trans ((hW.cell hp).trans HC.out)) (by have := hb.size; omega) HD.out.1 HD.out.2
          (fun w'' h1 h2 => HIH.out i n [v0, v1, v2, v3, v4] w'' hni h1 h2)
      have HNI := Lib.hid hni
      clear hni hnd hkeep
      generalize rightD n (deep + 1) = b at *
      go_wp2_with fail
      refine (HO.out _ (Below.refl _ _)).mono ?_; rintro e w1 ⟨rfl, hw1⟩
      cases b with
      | false =>
        have HE : Hid (V = false) := by show _ = _; rw [hv.out, HSTEP.out]; rfl
        go_wp2_with fail
        go_ret
        exact ⟨_, rfl, by rw [HE.out]; simp, hW.trans (hw1.mono hsz)⟩
      | true =>
        have HE : Hid (V = rightLD (ns.drop (i + 1)) (deep + 1)) := by show _ = _; rw [hv.out, HSTEP.out]; rfl
        go_wp2_with fail
        go_roundw
        case rel => exact ⟨i + 1, by omega, by go_num, HE, hW.trans (hw1.mono hsz)⟩
        case measure => simp [intOf]; omega
    · have HE : Hid (V = true) := by
        show _ = _
        rw [hv.out, List.drop_eq_nil_of_le (by omega), rightLD_nil]
      go_wp2_with fail
      go_ret
      exact ⟨_, rfl, by rw [HE.out]; rfl, hW⟩
end Go.Proofs.YtnbfagignbbmfaaDoor
/-! The walk of canon's right: the induction. -/
namespace Go.Proofs.YtnbfagignbbmfaaDoor
open Go.RowKit Go.PlainAid
set_option linter.unusedVariables false
set_option linter.unusedSimpArgs false
set_option maxRecDepth 100000 in
set_option maxHeartbeats 1000000 in
theorem sContainsFunc_right (ns : List Nd) (A : Option Addr) (cc : Nat) (xs : List Value) (w : World) (B : Nat) (deep : Int) (p : Addr) (hxs : Reads w B 5 A ns.length xs) (hns : NdsIs w B ns xs) (hB : B ≤ w.heap.size) (hk : ns.length ≤ 9223372036854775807)
    (hc : w.cell? p = some (.int .i64 deep)) (hp : p.block < w.heap.size) (d0 : 0 ≤ deep) (d1 : deep < 24)
    (HIH : Hid (∀ (i : Nat) (n : Nd) (cs : List Value) (w' : World), ns[i]? = some n → NdIs w' B n cs → B ≤ w'.heap.size → RightC cs.toArray (deep + 1) (rightD n (deep + 1)) w')) :
    Calls Tryd.prog 58 #[.slice A ns.length cc, .func (.func 68) #[] #[.pointer (some p)]] w (BoolBel (!rightLD ns (deep + 1)) w) := by
  have HC := Lib.hid (sIndexFunc_right ns A cc xs w B deep p hxs hns hB hk hc hp d0 d1 HIH)
  clear hxs hns hc d0 d1 HIH
  generalize rightLD ns (deep + 1) = V at *
  go_enter Tryd.func58, Tryd.ntmps58
  go_wp2_with fail
  refine HC.out.mono ?_; rintro e w1 ⟨v, rfl, hv, hw1⟩
  go_wp2_with fail
  go_ret
  exact ⟨by first | rfl | (rw [← hv]), hw1⟩
def RightHyp (B : Nat) (ns : List Nd) : Prop := ∀ (i : Nat) (n : Nd) (cs : List Value) (w' : World) (deep : Int), ns[i]? = some n → NdIs w' B n cs → B ≤ w'.heap.size → 0 ≤ deep → deep ≤ 24 → RightC cs.toArray deep (rightD n deep) w'
set_option maxRecDepth 100000 in
set_option maxHeartbeats 3000000 in
theorem cright_step (k num : Int) (t : ByteArray) (ks : List ByteArray) (ns : List Nd) (A A2 : Option Addr) (ck cc : Nat) (xs : List Value) (w : World) (B : Nat) (deep : Int)
    (hks : Reads w B 1 A ks.length (ks.map Value.string)) (hxs : Reads w B 5 A2 ns.length xs) (hns : NdsIs w B ns xs) (ht : t.size ≤ 9223372036854775807) (hsz : ∀ s ∈ ks, s.size ≤ 9223372036854775807) (hk1 : ks.length ≤ 9223372036854775807) (hk2 : ns.length ≤ 9223372036854775807)
    (hB : B ≤ w.heap.size) (d0 : 0 ≤ deep) (d1 : deep ≤ 24) (HIH : Hid (RightHyp B ns)) :
    Calls Tryd.prog 45 #[.agg #[.int .i64 k, .int .i64 num, .string t, .slice A ks.length ck, .slice A2 ns.length cc], .int .i64 deep] w (BoolBel (rightD (.mk k num t ks ns) deep) w) := by
  have hW := Below.refl w.heap.size w
  have HV : Hid (rightD (.mk k num t ks ns) deep = (bareF k num t ks.length ns.length &&
    (k == 1 || k == 2 || k == 3 || (k == 4 && decide (-9007199254740991 ≤ num ∧ num ≤ 9007199254740991)) || (k == 5 && validB t.toList) ||
      ((k == 6 || k == 7) && decide (deep < 24) && (k == 6 || (decide (ks.length = ns.length) && keysB ks)) && rightLD ns (deep + 1))))) := by
    show _ = _
    unfold rightLD rightD
    conv => lhs; unfold rightN
  generalize rightD (.mk k num t ks ns) deep = V at *
  have hA : Below w.heap.size w ((w.alloc (.cells #[.int .i64 k, .int .i64 num, .string t, .slice A ks.length ck, .slice A2 ns.length cc] 25)).alloc (.cells #[.int .i64 deep] 3)) := (hW.alloc hW.size _).alloc (by simp) _
  have HKC : Hid (∀ w', Below w.heap.size w w' → Calls Tryd.prog 67 #[.slice A ks.length ck] w' fun e w'' => e = .returned (.bool (keysB ks)) ∧ Below w'.heap.size w' w'') := fun w' hb =>
    keys_any ks A ck B w' (hks.keep fun p hp => hb.cell (by omega)) hsz hk1 (by have := hb.size; omega)
  have HVC : Hid (∀ w' : World, Calls Tryd.prog 66 #[.string t] w' fun e w'' => e = .returned (.bool (validB t.toList)) ∧ Below w'.heap.size w' w'') := fun w' => valid_any t w' ht
  have HCC : Hid (∀ w' p, deep < 24 → Below w.heap.size w w' → w'.cell? p = some (.int .i64 deep) → p.block < w'.heap.size → Calls Tryd.prog 58 #[.slice A2 ns.length cc, .func (.func 68) #[] #[.pointer (some p)]] w' (BoolBel (!rightLD ns (deep + 1)) w')) := fun w' p hd hb hc hp =>
    sContainsFunc_right ns A2 cc xs w' B deep p (hxs.keep fun p hp => hb.cell (by omega)) (NdsIs.keep (fun p hp => hb.cell (by omega)) _ _ hns) (by have := hb.size; omega) hk2 hc hp d0 hd
      (fun i n cs w'' h1 h2 h3 => HIH.out i n cs w'' (deep + 1) h1 h2 h3 (by omega) (by omega))
  have HBC : Hid (∀ w' : World, Calls Tryd.prog 65 #[.agg #[.int .i64 k, .int .i64 num, .string t, .slice A ks.length ck, .slice A2 ns.length cc]] w' fun e w'' => e = .returned (.bool (bareF k num t ks.length ns.length)) ∧ Below w'.heap.size w' w'') := fun w' =>
    bare_any k num t A A2 ks.length ns.length ck cc w'
  clear hks hxs hns hsz HIH
  generalize hvl : validB t.toList = vl at *
  generalize hkb : keysB ks = kb at *
  generalize hrl : rightLD ns (deep + 1) = rl at *
  clear hvl hkb hrl
  cases hb : bareF k num t ks.length ns.length with
  | false =>
    have HE : Hid (V = false) := by show _ = _; rw [HV.out, hb]; rfl
    rw [hb] at HBC
    clear HV hb
    go_enter Tryd.func45, Tryd.ntmps45
    go_wp2_with fail
    refine (HBC.out _).mono ?_; rintro e w1 ⟨rfl, hw1⟩
    go_wp2_with fail
    go_ret
    exact ⟨by rw [HE.out]; rfl, hA.trans (hw1.mono (by simp; omega))⟩
  | true =>
  rw [hb] at HBC HV
  clear hb
  by_cases h1 : k = 1
  · subst h1
    have HE : Hid (V = true) := by show _ = _; rw [HV.out]; simp
    clear HV
    go_enter Tryd.func45, Tryd.ntmps45
    go_wp2_with fail
    refine (HBC.out _).mono ?_; rintro e w1 ⟨rfl, hw1⟩
    have hW1 := hA.trans (hw1.mono (by simp; omega))
    have c0 : w1.cell? ⟨w.heap.size, 0, none⟩ = some (.int .i64 1) := (hw1.cell (by simp; omega)).trans (by simp [go_sem])
    have c1 : w1.cell? ⟨w.heap.size, 1, none⟩ = some (.int .i64 num) := (hw1.cell (by simp; omega)).trans (by simp [go_sem])
    have c2 : w1.cell? ⟨w.heap.size, 2, none⟩ = some (.string t) := (hw1.cell (by simp; omega)).trans (by simp [go_sem])
    have c3 : w1.cell? ⟨w.heap.size, 3, none⟩ = some (.slice A ks.length ck) := (hw1.cell (by simp; omega)).trans (by simp [go_sem])
    have c4 : w1.cell? ⟨w.heap.size, 4, none⟩ = some (.slice A2 ns.length cc) := (hw1.cell (by simp; omega)).trans (by simp [go_sem])
    have cd : w1.cell? ⟨w.heap.size + 1, 0, none⟩ = some (.int .i64 deep) := (hw1.cell (by simp)).trans (by simp [go_sem])
    have hs1 : w.heap.size + 2 ≤ w1.heap.size := by have := hw1.size; simp at this; omega
    go_wp2_with fail
    go_ret
    exact ⟨by rw [HE.out]; rfl, hW1⟩
  by_cases h2 : k = 2
  · subst h2
    have HE : Hid (V = true) := by show _ = _; rw [HV.out]; simp
    clear HV
    go_enter Tryd.func45, Tryd.ntmps45
    go_wp2_with fail
    refine (HBC.out _).mono ?_; rintro e w1 ⟨rfl, hw1⟩
    have hW1 := hA.trans (hw1.mono (by simp; omega))
    have c0 : w1.cell? ⟨w.heap.size, 0, none⟩ = some (.int .i64 2) := (hw1.cell (by simp; omega)).trans (by simp [go_sem])
    have c1 : w1.cell? ⟨w.heap.size, 1, none⟩ = some (.int .i64 num) := (hw1.cell (by simp; omega)).trans (by simp [go_sem])
    have c2 : w1.cell? ⟨w.heap.size, 2, none⟩ = some (.string t) := (hw1.cell (by simp; omega)).trans (by simp [go_sem])
    have c3 : w1.cell? ⟨w.heap.size, 3, none⟩ = some (.slice A ks.length ck) := (hw1.cell (by simp; omega)).trans (by simp [go_sem])
    have c4 : w1.cell? ⟨w.heap.size, 4, none⟩ = some (.slice A2 ns.length cc) := (hw1.cell (by simp; omega)).trans (by simp [go_sem])
    have cd : w1.cell? ⟨w.heap.size + 1, 0, none⟩ = some (.int .i64 deep) := (hw1.cell (by simp)).trans (by simp [go_sem])
    have hs1 : w.heap.size + 2 ≤ w1.heap.size := by have := hw1.size; simp at this; omega
    go_wp2_with fail
    go_ret
    exact ⟨by rw [HE.out]; rfl, hW1⟩
  by_cases h3 : k = 3
  · subst h3
    have HE : Hid (V = true) := by show _ = _; rw [HV.out]; simp
    clear HV
    go_enter Tryd.func45, Tryd.ntmps45
    go_wp2_with fail
    refine (HBC.out _).mono ?_; rintro e w1 ⟨rfl, hw1⟩
    have hW1 := hA.trans (hw1.mono (by simp; omega))
    have c0 : w1.cell? ⟨w.heap.size, 0, none⟩ = some (.int .i64 3) := (hw1.cell (by simp; omega)).trans (by simp [go_sem])
    have c1 : w1.cell? ⟨w.heap.size, 1, none⟩ = some (.int .i64 num) := (hw1.cell (by simp; omega)).trans (by simp [go_sem])
    have c2 : w1.cell? ⟨w.heap.size, 2, none⟩ = some (.string t) := (hw1.cell (by simp; omega)).trans (by simp [go_sem])
    have c3 : w1.cell? ⟨w.heap.size, 3, none⟩ = some (.slice A ks.length ck) := (hw1.cell (by simp; omega)).trans (by simp [go_sem])
    have c4 : w1.cell? ⟨w.heap.size, 4, none⟩ = some (.slice A2 ns.length cc) := (hw1.cell (by simp; omega)).trans (by simp [go_sem])
    have cd : w1.cell? ⟨w.heap.size + 1, 0, none⟩ = some (.int .i64 deep) := (hw1.cell (by simp)).trans (by simp [go_sem])
    have hs1 : w.heap.size + 2 ≤ w1.heap.size := by have := hw1.size; simp at this; omega
    go_wp2_with fail
    go_ret
    exact ⟨by rw [HE.out]; rfl, hW1⟩
  by_cases h4 : k = 4
  · subst h4
    cases e1 : decide (-9007199254740991 ≤ num) with
    | false =>
      have HE : Hid (V = false) := by show _ = _; rw [HV.out]; (have h9 := of_decide_eq_false e1); simp; intro h; exact absurd h h9
      clear HV
      go_enter Tryd.func45, Tryd.ntmps45
      go_wp2_with fail
      refine (HBC.out _).mono ?_; rintro e w1 ⟨rfl, hw1⟩
      have hW1 := hA.trans (hw1.mono (by simp; omega))
      have c0 : w1.cell? ⟨w.heap.size, 0, none⟩ = some (.int .i64 4) := (hw1.cell (by simp; omega)).trans (by simp [go_sem])
      have c1 : w1.cell? ⟨w.heap.size, 1, none⟩ = some (.int .i64 num) := (hw1.cell (by simp; omega)).trans (by simp [go_sem])
      have c2 : w1.cell? ⟨w.heap.size, 2, none⟩ = some (.string t) := (hw1.cell (by simp; omega)).trans (by simp [go_sem])
      have c3 : w1.cell? ⟨w.heap.size, 3, none⟩ = some (.slice A ks.length ck) := (hw1.cell (by simp; omega)).trans (by simp [go_sem])
      have c4 : w1.cell? ⟨w.heap.size, 4, none⟩ = some (.slice A2 ns.length cc) := (hw1.cell (by simp; omega)).trans (by simp [go_sem])
      have cd : w1.cell? ⟨w.heap.size + 1, 0, none⟩ = some (.int .i64 deep) := (hw1.cell (by simp)).trans (by simp [go_sem])
      have hs1 : w.heap.size + 2 ≤ w1.heap.size := by have := hw1.size; simp at this; omega
      go_wp2_with fail
      go_ret
      exact ⟨by rw [HE.out]; rfl, hW1⟩
    | true =>
    cases e2 : decide (num ≤ 9007199254740991) with
    | false =>
      have HE : Hid (V = false) := by show _ = _; rw [HV.out]; (have h9 := of_decide_eq_false e2); simp; intro h; omega
      clear HV
      go_enter Tryd.func45, Tryd.ntmps45
      go_wp2_with fail
      refine (HBC.out _).mono ?_; rintro e w1 ⟨rfl, hw1⟩
      have hW1 := hA.trans (hw1.mono (by simp; omega))
      have c0 : w1.cell? ⟨w.heap.size, 0, none⟩ = some (.int .i64 4) := (hw1.cell (by simp; omega)).trans (by simp [go_sem])
      have c1 : w1.cell? ⟨w.heap.size, 1, none⟩ = some (.int .i64 num) := (hw1.cell (by simp; omega)).trans (by simp [go_sem])
      have c2 : w1.cell? ⟨w.heap.size, 2, none⟩ = some (.string t) := (hw1.cell (by simp; omega)).trans (by simp [go_sem])
      have c3 : w1.cell? ⟨w.heap.size, 3, none⟩ = some (.slice A ks.length ck) := (hw1.cell (by simp; omega)).trans (by simp [go_sem])
      have c4 : w1.cell? ⟨w.heap.size, 4, none⟩ = some (.slice A2 ns.length cc) := (hw1.cell (by simp; omega)).trans (by simp [go_sem])
      have cd : w1.cell? ⟨w.heap.size + 1, 0, none⟩ = some (.int .i64 deep) := (hw1.cell (by simp)).trans (by simp [go_sem])
      have hs1 : w.heap.size + 2 ≤ w1.heap.size := by have := hw1.size; simp at this; omega
      go_wp2_with fail
      go_ret
      exact ⟨by rw [HE.out]; rfl, hW1⟩
    | true =>
      have HE : Hid (V = true) := by show _ = _; rw [HV.out]; simp [(by simpa using e1 : -9007199254740991 ≤ num), (by simpa using e2 : num ≤ 9007199254740991)]
      clear HV
      go_enter Tryd.func45, Tryd.ntmps45
      go_wp2_with fail
      refine (HBC.out _).mono ?_; rintro e w1 ⟨rfl, hw1⟩
      have hW1 := hA.trans (hw1.mono (by simp; omega))
      have c0 : w1.cell? ⟨w.heap.size, 0, none⟩ = some (.int .i64 4) := (hw1.cell (by simp; omega)).trans (by simp [go_sem])
      have c1 : w1.cell? ⟨w.heap.size, 1, none⟩ = some (.int .i64 num) := (hw1.cell (by simp; omega)).trans (by simp [go_sem])
      have c2 : w1.cell? ⟨w.heap.size, 2, none⟩ = some (.string t) := (hw1.cell (by simp; omega)).trans (by simp [go_sem])
      have c3 : w1.cell? ⟨w.heap.size, 3, none⟩ = some (.slice A ks.length ck) := (hw1.cell (by simp; omega)).trans (by simp [go_sem])
      have c4 : w1.cell? ⟨w.heap.size, 4, none⟩ = some (.slice A2 ns.length cc) := (hw1.cell (by simp; omega)).trans (by simp [go_sem])
      have cd : w1.cell? ⟨w.heap.size + 1, 0, none⟩ = some (.int .i64 deep) := (hw1.cell (by simp)).trans (by simp [go_sem])
      have hs1 : w.heap.size + 2 ≤ w1.heap.size := by have := hw1.size; simp at this; omega
      go_wp2_with fail
      go_ret
      exact ⟨by rw [HE.out]; rfl, hW1⟩
  by_cases h5 : k = 5
  · subst h5
    have HE : Hid (V = vl) := by show _ = _; rw [HV.out]; simp
    clear HV
    go_enter Tryd.func45, Tryd.ntmps45
    go_wp2_with fail
    refine (HBC.out _).mono ?_; rintro e w1 ⟨rfl, hw1⟩
    have hW1 := hA.trans (hw1.mono (by simp; omega))
    have c0 : w1.cell? ⟨w.heap.size, 0, none⟩ = some (.int .i64 5) := (hw1.cell (by simp; omega)).trans (by simp [go_sem])
    have c1 : w1.cell? ⟨w.heap.size, 1, none⟩ = some (.int .i64 num) := (hw1.cell (by simp; omega)).trans (by simp [go_sem])
    have c2 : w1.cell? ⟨w.heap.size, 2, none⟩ = some (.string t) := (hw1.cell (by simp; omega)).trans (by simp [go_sem])
    have c3 : w1.cell? ⟨w.heap.size, 3, none⟩ = some (.slice A ks.length ck) := (hw1.cell (by simp; omega)).trans (by simp [go_sem])
    have c4 : w1.cell? ⟨w.heap.size, 4, none⟩ = some (.slice A2 ns.length cc) := (hw1.cell (by simp; omega)).trans (by simp [go_sem])
    have cd : w1.cell? ⟨w.heap.size + 1, 0, none⟩ = some (.int .i64 deep) := (hw1.cell (by simp)).trans (by simp [go_sem])
    have hs1 : w.heap.size + 2 ≤ w1.heap.size := by have := hw1.size; simp at this; omega
    go_wp2_with fail
    refine (HVC.out _).mono ?_; rintro e w2 ⟨rfl, hw2⟩
    go_wp2_with fail
    go_ret
    exact ⟨by rw [HE.out]; rfl, hW1.trans (hw2.mono hW1.size)⟩
  by_cases h6 : k = 6
  · subst h6
    by_cases hd : 24 ≤ deep
    · have hd' : ¬ deep < 24 := by omega
      have HE : Hid (V = false) := by show _ = _; rw [HV.out]; simp [hd']
      clear HV
      go_enter Tryd.func45, Tryd.ntmps45
      go_wp2_with fail
      refine (HBC.out _).mono ?_; rintro e w1 ⟨rfl, hw1⟩
      have hW1 := hA.trans (hw1.mono (by simp; omega))
      have c0 : w1.cell? ⟨w.heap.size, 0, none⟩ = some (.int .i64 6) := (hw1.cell (by simp; omega)).trans (by simp [go_sem])
      have c1 : w1.cell? ⟨w.heap.size, 1, none⟩ = some (.int .i64 num) := (hw1.cell (by simp; omega)).trans (by simp [go_sem])
      have c2 : w1.cell? ⟨w.heap.size, 2, none⟩ = some (.string t) := (hw1.cell (by simp; omega)).trans (by simp [go_sem])
      have c3 : w1.cell? ⟨w.heap.size, 3, none⟩ = some (.slice A ks.length ck) := (hw1.cell (by simp; omega)).trans (by simp [go_sem])
      have c4 : w1.cell? ⟨w.heap.size, 4, none⟩ = some (.slice A2 ns.length cc) := (hw1.cell (by simp; omega)).trans (by simp [go_sem])
      have cd : w1.cell? ⟨w.heap.size + 1, 0, none⟩ = some (.int .i64 deep) := (hw1.cell (by simp)).trans (by simp [go_sem])
      have hs1 : w.heap.size + 2 ≤ w1.heap.size := by have := hw1.size; simp at this; omega
      go_wp2_with fail
      go_ret
      exact ⟨by rw [HE.out]; rfl, hW1⟩
    · have hd' : deep < 24 := by omega
      have HE : Hid (V = rl) := by show _ = _; rw [HV.out]; simp [hd']
      clear HV
      go_enter Tryd.func45, Tryd.ntmps45
      go_wp2_with fail
      refine (HBC.out _).mono ?_; rintro e w1 ⟨rfl, hw1⟩
      have hW1 := hA.trans (hw1.mono (by simp; omega))
      have c0 : w1.cell? ⟨w.heap.size, 0, none⟩ = some (.int .i64 6) := (hw1.cell (by simp; omega)).trans (by simp [go_sem])
      have c1 : w1.cell? ⟨w.heap.size, 1, none⟩ = some (.int .i64 num) := (hw1.cell (by simp; omega)).trans (by simp [go_sem])
      have c2 : w1.cell? ⟨w.heap.size, 2, none⟩ = some (.string t) := (hw1.cell (by simp; omega)).trans (by simp [go_sem])
      have c3 : w1.cell? ⟨w.heap.size, 3, none⟩ = some (.slice A ks.length ck) := (hw1.cell (by simp; omega)).trans (by simp [go_sem])
      have c4 : w1.cell? ⟨w.heap.size, 4, none⟩ = some (.slice A2 ns.length cc) := (hw1.cell (by simp; omega)).trans (by simp [go_sem])
      have cd : w1.cell? ⟨w.heap.size + 1, 0, none⟩ = some (.int .i64 deep) := (hw1.cell (by simp)).trans (by simp [go_sem])
      have hs1 : w.heap.size + 2 ≤ w1.heap.size := by have := hw1.size; simp at this; omega
      go_wp2_with fail
      refine (HCC.out _ _ hd' hW1 cd (by simp; omega)).mono ?_; rintro e w2 ⟨rfl, hw2⟩
      go_wp2_with fail
      go_ret
      exact ⟨by rw [HE.out]; simp, hW1.trans (hw2.mono hW1.size)⟩
  by_cases h7 : k = 7
  · subst h7
    by_cases hd : 24 ≤ deep
    · have hd' : ¬ deep < 24 := by omega
      have HE : Hid (V = false) := by show _ = _; rw [HV.out]; simp [hd']
      clear HV
      go_enter Tryd.func45, Tryd.ntmps45
      go_wp2_with fail
      refine (HBC.out _).mono ?_; rintro e w1 ⟨rfl, hw1⟩
      have hW1 := hA.trans (hw1.mono (by simp; omega))
      have c0 : w1.cell? ⟨w.heap.size, 0, none⟩ = some (.int .i64 7) := (hw1.cell (by simp; omega)).trans (by simp [go_sem])
      have c1 : w1.cell? ⟨w.heap.size, 1, none⟩ = some (.int .i64 num) := (hw1.cell (by simp; omega)).trans (by simp [go_sem])
      have c2 : w1.cell? ⟨w.heap.size, 2, none⟩ = some (.string t) := (hw1.cell (by simp; omega)).trans (by simp [go_sem])
      have c3 : w1.cell? ⟨w.heap.size, 3, none⟩ = some (.slice A ks.length ck) := (hw1.cell (by simp; omega)).trans (by simp [go_sem])
      have c4 : w1.cell? ⟨w.heap.size, 4, none⟩ = some (.slice A2 ns.length cc) := (hw1.cell (by simp; omega)).trans (by simp [go_sem])
      have cd : w1.cell? ⟨w.heap.size + 1, 0, none⟩ = some (.int .i64 deep) := (hw1.cell (by simp)).trans (by simp [go_sem])
      have hs1 : w.heap.size + 2 ≤ w1.heap.size := by have := hw1.size; simp at this; omega
      go_wp2_with fail
      go_ret
      exact ⟨by rw [HE.out]; rfl, hW1⟩
    have hd' : deep < 24 := by omega
    by_cases hl : ks.length = ns.length
    case neg =>
      have n4 : ((ks.length : Int) != (ns.length : Int)) = true := by rw [bne_iff_ne]; omega
      have HE : Hid (V = false) := by show _ = _; rw [HV.out]; simp [hl]
      clear HV
      go_enter Tryd.func45, Tryd.ntmps45
      go_wp2_with fail
      refine (HBC.out _).mono ?_; rintro e w1 ⟨rfl, hw1⟩
      have hW1 := hA.trans (hw1.mono (by simp; omega))
      have c0 : w1.cell? ⟨w.heap.size, 0, none⟩ = some (.int .i64 7) := (hw1.cell (by simp; omega)).trans (by simp [go_sem])
      have c1 : w1.cell? ⟨w.heap.size, 1, none⟩ = some (.int .i64 num) := (hw1.cell (by simp; omega)).trans (by simp [go_sem])
      have c2 : w1.cell? ⟨w.heap.size, 2, none⟩ = some (.string t) := (hw1.cell (by simp; omega)).trans (by simp [go_sem])
      have c3 : w1.cell? ⟨w.heap.size, 3, none⟩ = some (.slice A ks.length ck) := (hw1.cell (by simp; omega)).trans (by simp [go_sem])
      have c4 : w1.cell? ⟨w.heap.size, 4, none⟩ = some (.slice A2 ns.length cc) := (hw1.cell (by simp; omega)).trans (by simp [go_sem])
      have cd : w1.cell? ⟨w.heap.size + 1, 0, none⟩ = some (.int .i64 deep) := (hw1.cell (by simp)).trans (by simp [go_sem])
      have hs1 : w.heap.size + 2 ≤ w1.heap.size := by have := hw1.size; simp at this; omega
      go_wp2_with fail
      go_ret
      exact ⟨by rw [HE.out]; rfl, hW1⟩
    have n4 : ((ks.length : Int) != (ns.length : Int)) = false := by rw [bne_eq_false_iff_eq]; omega
    cases kb with
    | false =>
      have hl2 : decide (ks.length = ns.length) = true := decide_eq_true hl
      clear hl
      have HE : Hid (V = false) := by show _ = _; rw [HV.out]; simp
      clear HV
      go_enter Tryd.func45, Tryd.ntmps45
      go_wp2_with fail
      refine (HBC.out _).mono ?_; rintro e w1 ⟨rfl, hw1⟩
      have hW1 := hA.trans (hw1.mono (by simp; omega))
      have c0 : w1.cell? ⟨w.heap.size, 0, none⟩ = some (.int .i64 7) := (hw1.cell (by simp; omega)).trans (by simp [go_sem])
      have c1 : w1.cell? ⟨w.heap.size, 1, none⟩ = some (.int .i64 num) := (hw1.cell (by simp; omega)).trans (by simp [go_sem])
      have c2 : w1.cell? ⟨w.heap.size, 2, none⟩ = some (.string t) := (hw1.cell (by simp; omega)).trans (by simp [go_sem])
      have c3 : w1.cell? ⟨w.heap.size, 3, none⟩ = some (.slice A ks.length ck) := (hw1.cell (by simp; omega)).trans (by simp [go_sem])
      have c4 : w1.cell? ⟨w.heap.size, 4, none⟩ = some (.slice A2 ns.length cc) := (hw1.cell (by simp; omega)).trans (by simp [go_sem])
      have cd : w1.cell? ⟨w.heap.size + 1, 0, none⟩ = some (.int .i64 deep) := (hw1.cell (by simp)).trans (by simp [go_sem])
      have hs1 : w.heap.size + 2 ≤ w1.heap.size := by have := hw1.size; simp at this; omega
      go_wp2_with fail
      refine (HKC.out _ hW1).mono ?_; rintro e w2 ⟨rfl, hw2⟩
      go_wp2_with fail
      go_ret
      exact ⟨by rw [HE.out]; rfl, hW1.trans (hw2.mono hW1.size)⟩
    | true =>
      have hl2 : decide (ks.length = ns.length) = true := decide_eq_true hl
      clear hl
      have HE : Hid (V = rl) := by show _ = _; rw [HV.out]; simp [hd', hl2]
      clear HV
      go_enter Tryd.func45, Tryd.ntmps45
      go_wp2_with fail
      refine (HBC.out _).mono ?_; rintro e w1 ⟨rfl, hw1⟩
      have hW1 := hA.trans (hw1.mono (by simp; omega))
      have c0 : w1.cell? ⟨w.heap.size, 0, none⟩ = some (.int .i64 7) := (hw1.cell (by simp; omega)).trans (by simp [go_sem])
      have c1 : w1.cell? ⟨w.heap.size, 1, none⟩ = some (.int .i64 num) := (hw1.cell (by simp; omega)).trans (by simp [go_sem])
      have c2 : w1.cell? ⟨w.heap.size, 2, none⟩ = some (.string t) := (hw1.cell (by simp; omega)).trans (by simp [go_sem])
      have c3 : w1.cell? ⟨w.heap.size, 3, none⟩ = some (.slice A ks.length ck) := (hw1.cell (by simp; omega)).trans (by simp [go_sem])
      have c4 : w1.cell? ⟨w.heap.size, 4, none⟩ = some (.slice A2 ns.length cc) := (hw1.cell (by simp; omega)).trans (by simp [go_sem])
      have cd : w1.cell? ⟨w.heap.size + 1, 0, none⟩ = some (.int .i64 deep) := (hw1.cell (by simp)).trans (by simp [go_sem])
      have hs1 : w.heap.size + 2 ≤ w1.heap.size := by have := hw1.size; simp at this; omega
      go_wp2_with fail
      refine (HKC.out _ hW1).mono ?_; rintro e w2 ⟨rfl, hw2⟩
      have hW2 := hW1.trans (hw2.mono hW1.size)
      have g4 : w2.cell? ⟨w.heap.size, 4, none⟩ = some (.slice A2 ns.length cc) := (hw2.cell (by simp; omega)).trans c4
      have gd : w2.cell? ⟨w.heap.size + 1, 0, none⟩ = some (.int .i64 deep) := (hw2.cell (by simp; omega)).trans cd
      have hs2 := hw2.size
      go_wp2_with fail
      refine (HCC.out _ _ hd' hW2 gd (by simp; omega)).mono ?_; rintro e w3 ⟨rfl, hw3⟩
      go_wp2_with fail
      go_ret
      exact ⟨by rw [HE.out]; simp, hW2.trans (hw3.mono hW2.size)⟩
  have HE : Hid (V = false) := by show _ = _; rw [HV.out]; simp [h1, h2, h3, h4, h5, h6, h7]
  clear HV
  go_enter Tryd.func45, Tryd.ntmps45
  go_wp2_with fail
  refine (HBC.out _).mono ?_; rintro e w1 ⟨rfl, hw1⟩
  have hW1 := hA.trans (hw1.mono (by simp; omega))
  have c0 : w1.cell? ⟨w.heap.size, 0, none⟩ = some (.int .i64 k) := (hw1.cell (by simp; omega)).trans (by simp [go_sem])
  have c1 : w1.cell? ⟨w.heap.size, 1, none⟩ = some (.int .i64 num) := (hw1.cell (by simp; omega)).trans (by simp [go_sem])
  have c2 : w1.cell? ⟨w.heap.size, 2, none⟩ = some (.string t) := (hw1.cell (by simp; omega)).trans (by simp [go_sem])
  have c3 : w1.cell? ⟨w.heap.size, 3, none⟩ = some (.slice A ks.length ck) := (hw1.cell (by simp; omega)).trans (by simp [go_sem])
  have c4 : w1.cell? ⟨w.heap.size, 4, none⟩ = some (.slice A2 ns.length cc) := (hw1.cell (by simp; omega)).trans (by simp [go_sem])
  have cd : w1.cell? ⟨w.heap.size + 1, 0, none⟩ = some (.int .i64 deep) := (hw1.cell (by simp)).trans (by simp [go_sem])
  have hs1 : w.heap.size + 2 ≤ w1.heap.size := by have := hw1.size; simp at this; omega
  go_wp2_with fail
  go_ret
  exact ⟨by rw [HE.out]; rfl, hW1⟩
theorem cright_any : ∀ (m : Nat) (n : Nd), n.count ≤ m → ∀ (B : Nat) (cs : List Value) (w : World) (deep : Int), NdIs w B n cs → B ≤ w.heap.size → 0 ≤ deep → deep ≤ 24 → RightC cs.toArray deep (rightD n deep) w := by
  intro m
  induction m with
  | zero => intro n hm; have := n.count_pos; omega
  | succ m ih =>
    intro n hm B cs w deep hn hB d0 d1
    cases n with
    | mk k num t ks ns =>
      unfold NdIs at hn
      obtain ⟨A, ck, A2, cc, xs, rfl, hks, hxs, hns, ik, inn, ht, hkl, hk, hmm⟩ := hn
      unfold maxLen at *
      refine cright_step k num t ks ns A A2 ck cc xs w B deep hks hxs hns ht hkl hk hmm hB d0 d1 ?_
      intro i n cs w' deep h1 h2 h3 h4 h5
      refine ih n ?_ B cs w' deep h2 h3 h4 h5
      have := Nd.counts_get ns i n h1
      simp only [Nd.count] at hm; omega
/-- canon's Right -/
theorem CRight_any (n : Nd) (cs : List Value) (w : World) (B : Nat) (hn : NdIs w B n cs) (hB : B ≤ w.heap.size) : Calls Tryd.prog 31 #[.agg cs.toArray] w (BoolBel (rightD n 0) w) := by
  have hl := hn.len
  have hW := Below.refl w.heap.size w
  match cs, hl with
  | [v0, v1, v2, v3, v4], _ =>
    have HC : Hid (∀ w', Below w.heap.size w w' → RightC #[v0, v1, v2, v3, v4] 0 (rightD n 0) w') := fun w' hb =>
      cright_any n.count n (Nat.le_refl _) B [v0, v1, v2, v3, v4] w' 0 (hn.below (hb.mono (by omega))) (by have := hb.size; omega) (by omega) (by omega)
    obtain ⟨x0, x1, x2, x3, x4, x5, x6, x7, x8, rfl, rfl, rfl, rfl, rfl⟩ := hn.form
    show Calls Tryd.prog 31 #[.agg #[_, _, _, _, _]] w (BoolBel _ w)
    clear hn
    generalize rightD n 0 = W at *
    go_enter Tryd.func31, Tryd.ntmps31
    go_wp2_with fail
    refine (HC.out _ (hW.alloc hW.size _)).mono ?_; rintro e w1 ⟨rfl, hw1⟩
    go_wp2_with fail
    go_ret
    exact ⟨rfl, nextA hW hw1⟩
end Go.Proofs.YtnbfagignbbmfaaDoor
/-! The walk of canon's Print. -/
namespace Go.Proofs.YtnbfagignbbmfaaDoor
open Go.RowKit Go.PlainAid
set_option linter.unusedVariables false
set_option linter.unusedSimpArgs false
noncomputable def printS (n : Nd) : ByteArray := if rightD n 0 = false then ⟨#[]⟩ else if 65536 < (outN n []).length then ⟨#[]⟩ else ⟨(outN n []).toArray⟩
noncomputable def printE (n : Nd) : Int := if rightD n 0 = false then 1 else if 65536 < (outN n []).length then 2 else 0
def StrErr (s : ByteArray) (k : Int) (w : World) (e : Ending) (w' : World) : Prop := e = .returned (.tuple #[.string s, .int .i64 k]) ∧ Below w.heap.size w w'
theorem decDigits_ne (u : Nat) : Lib.decDigits u ≠ [] := by
  unfold Lib.decDigits
  split <;> simp
theorem itoa_ne (n : Int) : Lib.itoa n ≠ [] := by
  unfold Lib.itoa
  split
  · simp
  · exact decDigits_ne _
theorem outN_ne (n : Nd) : outN n [] ≠ [] := by
  cases n
  unfold outN
  rw [if_neg (by simp)]
  repeat' split
  all_goals first | (simp; done) | (simp only [List.nil_append]; exact itoa_ne _) | (simp only [List.nil_append]; unfold quoteU; simp)
end Go.Proofs.YtnbfagignbbmfaaDoor
/-! The walk of the reference's quote. -/
namespace Go.Proofs.YtnbfagignbbmfaaDoor
open Go.RowKit Go.PlainAid
set_option linter.unusedVariables false
set_option linter.unusedSimpArgs false
set_option maxRecDepth 100000
def nums (l : List UInt8) : List Int := l.map fun c => (c.toNat : Int)
theorem nums_app (a b : List UInt8) : nums (a ++ b) = nums a ++ nums b := by simp [nums]
theorem nums_len (a : List UInt8) : (nums a).length = a.length := by simp [nums]
theorem strOfNums_nums (l : List UInt8) : strOfNums (nums l) = ⟨l.toArray⟩ := by
  unfold strOfNums nums
  congr 1
  apply Array.ext'
  simp [Function.comp_def]
def OwnU (w : World) (B : Nat) (v : Value) (l : List UInt8) : Prop := OwnB w B v (nums l)
theorem OwnU.nil (w : World) (B : Nat) : OwnU w B (.slice none 0 0) [] := OwnB.nil w B
/-- blocks below B, and blocks above that are no rows of bytes, are as they were -/
def KU (B : Nat) (w w' : World) : Prop := Below B w w' ∧ Lib.OthersKept 5 none w w'
theorem KU.refl (B : Nat) (w : World) : KU B w w := ⟨Below.refl _ _, Lib.OthersKept.refl _ _ _⟩
theorem KU.trans {B : Nat} {w w1 w2 : World} (h : KU B w w1) (k : KU B w1 w2) : KU B w w2 := ⟨h.1.trans k.1, h.2.trans k.2⟩
theorem KU.old {B : Nat} {w w' : World} (k : Below w.heap.size w w') (hB : B ≤ w.heap.size) : KU B w w' :=
  ⟨k.mono hB, fun i o hi _ _ => (k.block i (bldLt hi)).trans hi⟩
theorem KU.alloc {B : Nat} {w w' : World} (h : KU B w w') (hB : B ≤ w'.heap.size) (o : Obj) : KU B w (w'.alloc o) := ⟨h.1.alloc hB o, h.2.alloc o⟩
theorem KU.blk {B : Nat} {w w' : World} (h : KU B w w') {x : Nat} {cs : Array Value} (hx : Blk w x 25 cs) : Blk w' x 25 cs :=
  h.2 x _ hx (by simp) (fun c fz e => by injection e with _ e2; exact absurd e2 (by decide))
theorem KU.of_grown {B : Nat} {w w' : World} {v : Value} {l : List UInt8} (h : OwnU w B v l) (hB : B ≤ w.heap.size) (hg : w.grownBy w' v.ownBlock) : KU B w w' :=
  ⟨(Below.refl _ _).grown hg hB (fun k hk => (World.ownsRow.lt h k hk).1), (Lib.OthersKept.refl _ _ w).grown hg (Lib.ownsRow_kind h)⟩
theorem OwnU.old {B : Nat} {v : Value} {l : List UInt8} {w w' : World} (h : OwnU w B v l) (k : Below w.heap.size w w') : OwnU w' B v l := by
  have hg : w.grownBy w' none := ⟨k.os, k.tape, k.output, k.size, fun i hi _ => k.block i hi⟩
  exact World.ownsRow.kept h hg (by cases v.ownBlock <;> simp)
theorem OwnU.conv {w : World} {B : Nat} {v : Value} {l : List UInt8} (h : OwnU w B v l) : (convert 36 9 v).run Tryd.prog w = .ok (.string ⟨l.toArray⟩) w := by
  rw [← strOfNums_nums]; exact OwnB.conv h
def OutIs (B : Nat) (l : List UInt8) (w : World) (e : Ending) (w' : World) : Prop := ∃ v', e = .returned v' ∧ OwnU w' B v' l ∧ KU B w w'
/-- the bytes of a string, appended -/
theorem wpList_pushS (w : World) {ops : Array Oper} {rest : List Oper} {o : Oper} {a : Act} {Q : Exit → Act → World → Prop} (hgd : o.guard = none) (s x : Operand)
    (ho : o.op = .call { callee := .builtin .append, args := #[s, x], argTypes := #[36, 9] })
    (B : Nat) (v : Value) (l : List UInt8) (hs : a.eval s = v) (hown : OwnU w B v l) (t : ByteArray) (hx : a.eval x = .string t) (m : List UInt8) (hm : t.toList = m)
    (hlim : l.length + m.length ≤ 120000000000000) (hB : B ≤ w.heap.size)
    (h : ∀ v' w', OwnU w' B v' (l ++ m) → KU B w w' → wpList Tryd.prog ops Q rest (a.put o.dst v') w') : wpList Tryd.prog ops Q (o :: rest) a w := by
  obtain ⟨i0, hi0, hz0, hz1, hz2⟩ := info_parts u8Info
  have hts : t.size = m.length := by rw [← hm]; exact (tl_len' t).symm
  refine Lib.wpList_append_own_string w hgd s x 36 9 ho B 5 i0 Tryd.underlying36 Tryd.underlying9 hi0 hz0 hz1 hz2 v (nums l).length _ hs hown t hx
    (by rw [nums_len]; simp only [maxLen]; omega) (by rw [nums_len]; omega) hB (fun v' w' h1 h2 _ => h v' w' ?_ (KU.of_grown hown hB h2))
  have e : (nums (l ++ m)).map (Value.int .u8) = (nums l).map (Value.int .u8) ++ Lib.strCells t := by
    rw [nums_app, List.map_append]
    congr 1
    subst hm
    rw [ByteArray.toList_eq]
    simp [nums, Lib.strCells]
  show w'.ownsRow B 5 1 v' (nums (l ++ m)).length ((nums (l ++ m)).map (Value.int .u8))
  rw [e, nums_app, List.length_append, nums_len m, ← hts]
  exact h1
/-- bytes that stand in the newest block, appended -/
theorem wpList_pushL (w : World) {ops : Array Oper} {rest : List Oper} {o : Oper} {a : Act} {Q : Exit → Act → World → Prop} (hgd : o.guard = none) (s x : Operand)
    (ho : o.op = .call { callee := .builtin .append, args := #[s, x], argTypes := #[36, 36] })
    (B : Nat) (v : Value) (l : List UInt8) (hs : a.eval s = v) (hown : OwnU w B v l) (m : List UInt8) (n : Nat) (hn : m.length = n) (cs : Array Value) (hcs : cs = ((nums m).map (Value.int .u8)).toArray) (hx : a.eval x = .slice (some ⟨w.heap.size, 0, none⟩) n n)
    (hlim : l.length + m.length ≤ 120000000000000) (hB : B ≤ w.heap.size)
    (h : ∀ v' w', OwnU w' B v' (l ++ m) → KU B w w' → wpList Tryd.prog ops Q rest (a.put o.dst v') w') : wpList Tryd.prog ops Q (o :: rest) a (w.alloc (.cells cs 5)) := by
  subst hn; subst hcs
  obtain ⟨i0, hi0, hz0, hz1, hz2⟩ := info_parts u8Info
  have hr : Reads (w.alloc (.cells ((nums m).map (Value.int .u8)).toArray 5)) (w.heap.size + 1) 1 (some ⟨w.heap.size, 0, none⟩) m.length ((nums m).map (Value.int .u8)) := by
    refine ⟨by simp [nums], fun _ => ⟨_, rfl, by simp, fun j u hu => ?_⟩⟩
    have e : (⟨w.heap.size, 0, none⟩ : Addr).add j = ⟨w.heap.size, j, none⟩ := by unfold Addr.add; split <;> simp_all
    rw [e, World.cell?_alloc_mark]
    simpa using hu
  refine wpList_plain hgd fun K hK => ?_
  obtain ⟨v', w', h1, h2, h3, _⟩ := run_append_any (P := Tryd.prog) (w.alloc (.cells ((nums m).map (Value.int .u8)).toArray 5)) B 36 o.type 5 i0 (.int .u8 0) 1 1 Tryd.underlying36 hi0 hz0 hz1 hz2 rfl (by omega) v (nums l).length _ (World.ownsRow.alloc hown _) (w.heap.size + 1) _ m.length m.length _ hr
    (fun u hu => by obtain ⟨n, _, rfl⟩ := List.mem_map.1 hu; rfl) (by rw [nums_len]; simp only [maxLen]; omega) (by rw [nums_len]; omega) (by simp; omega)
  unfold Oper.wp execOp
  simp only [ho, resolve, invoke, builtin, Sem.run_bind, Sem.run_pure, Result.andThen_ok, List.map_toArray, List.map_cons, List.map_nil, hs, hx, h1]
  refine hK _ _ (h v' w' ?_ (((KU.refl B w).alloc hB _).trans (KU.of_grown (World.ownsRow.alloc hown _) (by simp; omega) h3)))
  show w'.ownsRow B 5 1 v' (nums (l ++ m)).length ((nums (l ++ m)).map (Value.int .u8))
  rw [nums_app, List.map_append, List.length_append, nums_len m]
  exact h2
theorem reads_lit (w : World) (m : List UInt8) (cs : Array Value) (hcs : cs = ((nums m).map (Value.int .u8)).toArray) (n : Nat) (hn : m.length = n) : Reads (w.alloc (.cells cs 5)) (w.heap.size + 1) 1 (some ⟨w.heap.size, 0, none⟩) n ((nums m).map (Value.int .u8)) := by
  subst hcs; subst hn
  refine ⟨by simp [nums], fun _ => ⟨_, rfl, by simp, fun j u hu => ?_⟩⟩
  have e : (⟨w.heap.size, 0, none⟩ : Addr).add j = ⟨w.heap.size, j, none⟩ := by unfold Addr.add; split <;> simp_all
  rw [e, World.cell?_alloc_mark]
  simpa using hu
theorem run_pushK (w : World) (B : Nat) (v : Value) (l : List UInt8) (hown : OwnU w B v l) (R : Nat) (A : Option Addr) (n c : Nat) (m : List UInt8) (hr : Reads w R 1 A n ((nums m).map (Value.int .u8))) (ty : TypeId)
    (hlim : l.length + n ≤ 120000000000000) (hB : B ≤ w.heap.size) :
    ∃ v' w', (Builtin.append_ #[36, 36] ty #[v, .slice A n c]).run Tryd.prog w = .ok v' w' ∧ OwnU w' B v' (l ++ m) ∧ KU B w w' := by
  obtain ⟨i0, hi0, hz0, hz1, hz2⟩ := info_parts u8Info
  obtain ⟨v', w', h1, h2, h3, _⟩ := run_append_any (P := Tryd.prog) w B 36 ty 5 i0 (.int .u8 0) 1 1 Tryd.underlying36 hi0 hz0 hz1 hz2 rfl (by omega) v (nums l).length _ hown R A n c _ hr
    (fun u hu => by obtain ⟨n, _, rfl⟩ := List.mem_map.1 hu; rfl) (by rw [nums_len]; simp only [maxLen]; omega) (by rw [nums_len]; omega) hB
  have hm : m.length = n := by have := hr.1; simpa [nums] using this
  refine ⟨v', w', h1, ?_, KU.of_grown hown hB h3⟩
  show w'.ownsRow B 5 1 v' (nums (l ++ m)).length ((nums (l ++ m)).map (Value.int .u8))
  rw [nums_app, List.map_append, List.length_append, nums_len m, hm]
  exact h2
/-- the same as one step of a region that draws its order -/
theorem step_push {ops : Array Oper} {o : Oper} {a : Act} {w : World} {K : Act → World → Prop} {Q : Exit → Act → World → Prop} {E : Prop}
    (hg : o.guard = none) (s x : Operand) (hop : o.op = Op.call { callee := Callee.builtin Builtin.append, args := #[s, x], argTypes := #[36, 36] })
    (B : Nat) (v : Value) (l : List UInt8) (hs : a.eval s = v) (hown : OwnU w B v l) (R : Nat) (A : Option Addr) (n c : Nat) (m : List UInt8) (hx : a.eval x = .slice A n c) (hr : Reads w R 1 A n ((nums m).map (Value.int .u8)))
    (hlim : l.length + n ≤ 120000000000000) (hB : B ≤ w.heap.size)
    (hK : ∀ v' w', OwnU w' B v' (l ++ m) → KU B w w' → K (a.put o.dst v') w') :
    if Region.wanted o (yielded ops a.tmps) = true then Oper.wp Tryd.prog o a w K Q else E := by
  have hw : Region.wanted o (yielded ops a.tmps) = true := by simp [Region.wanted, hg]
  rw [if_pos hw]
  obtain ⟨v', w', h1, h2, h3⟩ := run_pushK w B v l hown R A n c m hr o.type hlim hB
  unfold Oper.wp execOp
  simp only [hop, resolve, invoke, builtin, Sem.run_bind, Sem.run_pure, Result.andThen_ok, List.map_toArray, List.map_cons, List.map_nil, hs, hx, h1]
  exact hK _ _ h2 h3
end Go.Proofs.YtnbfagignbbmfaaDoor
/-! The walk of the reference's right. -/
namespace Go.Proofs.YtnbfagignbbmfaaDoor
open Go.RowKit Go.PlainAid
set_option linter.unusedVariables false
set_option linter.unusedSimpArgs false
def RrightC (vs : Array Value) (deep : Int) (b : Bool) (w : World) : Prop := Calls Tryd.prog 38 #[.agg vs, .int .i64 deep] w (BoolBel b w)
def RrightHyp (B : Nat) (ns : List Nd) : Prop := ∀ (i : Nat) (n : Nd) (cs : List Value) (w' : World) (deep : Int), ns[i]? = some n → NdIs w' B n cs → B ≤ w'.heap.size → 0 ≤ deep → deep ≤ 24 → RrightC cs.toArray deep (rightD n deep) w'
theorem keysB_nil : keysB [] = true := by unfold keysB; exact decide_eq_true ⟨List.nodup_nil, by simp⟩
theorem keysB_all {ks : List ByteArray} {i : Nat} (hi : i = ks.length) (h : (ks.take i).Nodup ∧ ∀ s ∈ ks.take i, validB s.toList = true) : keysB ks = true := by
  subst hi
  rw [List.take_length] at h
  unfold keysB
  exact decide_eq_true h
theorem rightD_eq (k num : Int) (t : ByteArray) (ks : List ByteArray) (ns : List Nd) (deep : Int) : rightD (.mk k num t ks ns) deep = (bareF k num t ks.length ns.length &&
    (k == 1 || k == 2 || k == 3 || (k == 4 && decide (-9007199254740991 ≤ num ∧ num ≤ 9007199254740991)) || (k == 5 && validB t.toList) ||
      ((k == 6 || k == 7) && decide (deep < 24) && (k == 6 || (decide (ks.length = ns.length) && keysB ks)) && rightLD ns (deep + 1)))) := by
    unfold rightLD rightD
    conv => lhs; unfold rightN
theorem take_ne {ks : List ByteArray} {i : Nat} {s : ByteArray} (h : ∀ (j : Nat) (u : ByteArray), j < i → ks[j]? = some u → (u.toList == s.toList) = false) : s ∉ ks.take i := by
  intro hm
  obtain ⟨j, hj⟩ := List.getElem?_of_mem hm
  have hl := (List.getElem?_eq_some_iff.1 hj).1
  rw [List.length_take] at hl
  rw [List.getElem?_take_of_lt (by omega)] at hj
  have := h j s (by omega) hj
  simp at this
theorem take_in {ks : List ByteArray} {i j : Nat} {u : ByteArray} (hj : j < i) (h : ks[j]? = some u) : u ∈ ks.take i := by
  have : (ks.take i)[j]? = some u := by rw [List.getElem?_take_of_lt hj]; exact h
  exact List.mem_of_getElem? this
set_option maxRecDepth 100000 in
set_option maxHeartbeats 3000000 in
theorem rright_const (k num : Int) (t : ByteArray) (ks : List ByteArray) (ns : List Nd) (A A2 : Option Addr) (ck cc : Nat) (xs : List Value) (w : World) (B : Nat) (deep : Int)
    (hks : Reads w B 1 A ks.length (ks.map Value.string)) (hxs : Reads w B 5 A2 ns.length xs) (hns : NdsIs w B ns xs) (ht : t.size ≤ 9223372036854775807) (hsz : ∀ s ∈ ks, s.size ≤ 9223372036854775807) (hk1 : ks.length ≤ 9223372036854775807) (hk2 : ns.length ≤ 9223372036854775807)
    (hB : B ≤ w.heap.size) (d0 : 0 ≤ deep) (d1 : deep ≤ 24) (HIH : Hid (RrightHyp B ns)) (hk : k = 1 ∨ k = 2 ∨ k = 3) :
    Calls Tryd.prog 38 #[.agg #[.int .i64 k, .int .i64 num, .string t, .slice A ks.length ck, .slice A2 ns.length cc], .int .i64 deep] w (BoolBel (rightD (.mk k num t ks ns) deep) w) := by
  have hW := Below.refl w.heap.size w
  have HV : Hid (_ = _) := rightD_eq k num t ks ns deep
  have HVC : Hid (∀ w' : World, Calls Tryd.prog 53 #[.string t] w' fun e w'' => e = .returned (.bool (validB t.toList)) ∧ Below w'.heap.size w' w'') := fun w' => rvalid_any t w' ht
  have hA : Below w.heap.size w (w.alloc (.cells #[.int .i64 k, .int .i64 num, .string t, .slice A ks.length ck, .slice A2 ns.length cc] 25)) := hW.alloc hW.size _
  generalize rightD (.mk k num t ks ns) deep = V at *
  rcases hk with rfl | rfl | rfl
  · by_cases hn : num = 0
    case neg =>
      have HE : Hid (V = false) := by show _ = _; rw [HV.out]; simp [bareF, hn]
      clear HV hks hxs hns hsz HIH
      go_enter Tryd.func38, Tryd.ntmps38
      go_wp2_with fail
      go_ret
      exact ⟨by rw [HE.out]; rfl, hA⟩
    subst hn
    by_cases ht0 : t = ⟨#[]⟩
    case neg =>
      have ht2 : decide (t = ⟨#[]⟩) = false := decide_eq_false ht0
      have ht3 : ¬ t.toList = [] := fun h => ht0 (by cases t with | mk d => rw [ByteArray.toList_eq] at h; simp at h; rw [h])
      have ht4 : t.toList.isEmpty = false := by simp [ht3]
      have HE : Hid (V = false) := by show _ = _; rw [HV.out]; simp [bareF, ht0]
      clear HV hks hxs hns hsz HIH
      go_enter Tryd.func38, Tryd.ntmps38
      go_wp2_with fail
      go_ret
      exact ⟨by rw [HE.out]; rfl, hA⟩
    have ht2 : decide (t = ⟨#[]⟩) = true := decide_eq_true ht0
    have ht3 : t.toList = [] := by rw [ht0, ByteArray.toList_eq]
    have ht4 : t.toList.isEmpty = true := by rw [ht3]; rfl
    have hvt : validB t.toList = true := by rw [ht3]; exact validB_nil
    rw [hvt] at HVC
    rw [ht3] at HV
    clear hvt ht0
    by_cases hb0 : 0 < ns.length
    case pos =>
      have hb2 : ns ≠ [] := fun h => by rw [h] at hb0; simp at hb0
      have HE : Hid (V = false) := by show _ = _; rw [HV.out]; simp [bareF, hb2]
      clear HV hks hxs hns hsz HIH
      go_enter Tryd.func38, Tryd.ntmps38
      go_wp2_with fail
      refine (HVC.out _).mono ?_; rintro e w1 ⟨rfl, hw1⟩
      have hW1 := hA.trans (hw1.mono (by simp))
      have c0 : w1.cell? ⟨w.heap.size, 0, none⟩ = some (.int .i64 1) := (hw1.cell (by simp)).trans (by simp [go_sem])
      have c1 : w1.cell? ⟨w.heap.size, 1, none⟩ = some (.int .i64 0) := (hw1.cell (by simp)).trans (by simp [go_sem])
      have c2 : w1.cell? ⟨w.heap.size, 2, none⟩ = some (.string t) := (hw1.cell (by simp)).trans (by simp [go_sem])
      have c3 : w1.cell? ⟨w.heap.size, 3, none⟩ = some (.slice A ks.length ck) := (hw1.cell (by simp)).trans (by simp [go_sem])
      have c4 : w1.cell? ⟨w.heap.size, 4, none⟩ = some (.slice A2 ns.length cc) := (hw1.cell (by simp)).trans (by simp [go_sem])
      go_wp2_with fail
      go_ret
      exact ⟨by rw [HE.out]; rfl, hW1⟩
    have hb3 : ns.length < 1 := by omega
    have HBN : Hid (ns = []) := List.eq_nil_of_length_eq_zero (by omega)
    clear hb0
    by_cases ha0 : 0 < ks.length
    case pos =>
      have ha2 : ks ≠ [] := fun h => by rw [h] at ha0; simp at ha0
      have HE : Hid (V = false) := by show _ = _; rw [HV.out]; simp [bareF, ha2]
      clear HV hks hxs hns hsz HIH
      go_enter Tryd.func38, Tryd.ntmps38
      go_wp2_with fail
      refine (HVC.out _).mono ?_; rintro e w1 ⟨rfl, hw1⟩
      have hW1 := hA.trans (hw1.mono (by simp))
      have c0 : w1.cell? ⟨w.heap.size, 0, none⟩ = some (.int .i64 1) := (hw1.cell (by simp)).trans (by simp [go_sem])
      have c1 : w1.cell? ⟨w.heap.size, 1, none⟩ = some (.int .i64 0) := (hw1.cell (by simp)).trans (by simp [go_sem])
      have c2 : w1.cell? ⟨w.heap.size, 2, none⟩ = some (.string t) := (hw1.cell (by simp)).trans (by simp [go_sem])
      have c3 : w1.cell? ⟨w.heap.size, 3, none⟩ = some (.slice A ks.length ck) := (hw1.cell (by simp)).trans (by simp [go_sem])
      have c4 : w1.cell? ⟨w.heap.size, 4, none⟩ = some (.slice A2 ns.length cc) := (hw1.cell (by simp)).trans (by simp [go_sem])
      go_wp2_with fail
      go_ret
      exact ⟨by rw [HE.out]; rfl, hW1⟩
    have ha3 : ks.length < 1 := by omega
    have HAN : Hid (ks = []) := List.eq_nil_of_length_eq_zero (by omega)
    clear ha0
    have HE : Hid (V = true) := by show _ = _; rw [HV.out, HAN.out, HBN.out]; simp [bareF, *]
    clear HV hks hxs hns hsz HIH
    go_enter Tryd.func38, Tryd.ntmps38
    go_wp2_with fail
    refine (HVC.out _).mono ?_; rintro e w1 ⟨rfl, hw1⟩
    have hW1 := hA.trans (hw1.mono (by simp))
    have c0 : w1.cell? ⟨w.heap.size, 0, none⟩ = some (.int .i64 1) := (hw1.cell (by simp)).trans (by simp [go_sem])
    have c1 : w1.cell? ⟨w.heap.size, 1, none⟩ = some (.int .i64 0) := (hw1.cell (by simp)).trans (by simp [go_sem])
    have c2 : w1.cell? ⟨w.heap.size, 2, none⟩ = some (.string t) := (hw1.cell (by simp)).trans (by simp [go_sem])
    have c3 : w1.cell? ⟨w.heap.size, 3, none⟩ = some (.slice A ks.length ck) := (hw1.cell (by simp)).trans (by simp [go_sem])
    have c4 : w1.cell? ⟨w.heap.size, 4, none⟩ = some (.slice A2 ns.length cc) := (hw1.cell (by simp)).trans (by simp [go_sem])
    go_wp2_with fail
    refine wp_loop_rounds 1 ?_; rw [rounds_succ]
    go_wp2_with fail
    refine wp_loop_rounds 1 ?_; rw [rounds_succ]
    go_wp2_with fail
    go_ret
    exact ⟨by rw [HE.out]; rfl, hW1⟩
  · by_cases hn : num = 0
    case neg =>
      have HE : Hid (V = false) := by show _ = _; rw [HV.out]; simp [bareF, hn]
      clear HV hks hxs hns hsz HIH
      go_enter Tryd.func38, Tryd.ntmps38
      go_wp2_with fail
      go_ret
      exact ⟨by rw [HE.out]; rfl, hA⟩
    subst hn
    by_cases ht0 : t = ⟨#[]⟩
    case neg =>
      have ht2 : decide (t = ⟨#[]⟩) = false := decide_eq_false ht0
      have ht3 : ¬ t.toList = [] := fun h => ht0 (by cases t with | mk d => rw [ByteArray.toList_eq] at h; simp at h; rw [h])
      have ht4 : t.toList.isEmpty = false := by simp [ht3]
      have HE : Hid (V = false) := by show _ = _; rw [HV.out]; simp [bareF, ht0]
      clear HV hks hxs hns hsz HIH
      go_enter Tryd.func38, Tryd.ntmps38
      go_wp2_with fail
      go_ret
      exact ⟨by rw [HE.out]; rfl, hA⟩
    have ht2 : decide (t = ⟨#[]⟩) = true := decide_eq_true ht0
    have ht3 : t.toList = [] := by rw [ht0, ByteArray.toList_eq]
    have ht4 : t.toList.isEmpty = true := by rw [ht3]; rfl
    have hvt : validB t.toList = true := by rw [ht3]; exact validB_nil
    rw [hvt] at HVC
    rw [ht3] at HV
    clear hvt ht0
    by_cases hb0 : 0 < ns.length
    case pos =>
      have hb2 : ns ≠ [] := fun h => by rw [h] at hb0; simp at hb0
      have HE : Hid (V = false) := by show _ = _; rw [HV.out]; simp [bareF, hb2]
      clear HV hks hxs hns hsz HIH
      go_enter Tryd.func38, Tryd.ntmps38
      go_wp2_with fail
      refine (HVC.out _).mono ?_; rintro e w1 ⟨rfl, hw1⟩
      have hW1 := hA.trans (hw1.mono (by simp))
      have c0 : w1.cell? ⟨w.heap.size, 0, none⟩ = some (.int .i64 2) := (hw1.cell (by simp)).trans (by simp [go_sem])
      have c1 : w1.cell? ⟨w.heap.size, 1, none⟩ = some (.int .i64 0) := (hw1.cell (by simp)).trans (by simp [go_sem])
      have c2 : w1.cell? ⟨w.heap.size, 2, none⟩ = some (.string t) := (hw1.cell (by simp)).trans (by simp [go_sem])
      have c3 : w1.cell? ⟨w.heap.size, 3, none⟩ = some (.slice A ks.length ck) := (hw1.cell (by simp)).trans (by simp [go_sem])
      have c4 : w1.cell? ⟨w.heap.size, 4, none⟩ = some (.slice A2 ns.length cc) := (hw1.cell (by simp)).trans (by simp [go_sem])
      go_wp2_with fail
      go_ret
      exact ⟨by rw [HE.out]; rfl, hW1⟩
    have hb3 : ns.length < 1 := by omega
    have HBN : Hid (ns = []) := List.eq_nil_of_length_eq_zero (by omega)
    clear hb0
    by_cases ha0 : 0 < ks.length
    case pos =>
      have ha2 : ks ≠ [] := fun h => by rw [h] at ha0; simp at ha0
      have HE : Hid (V = false) := by show _ = _; rw [HV.out]; simp [bareF, ha2]
      clear HV hks hxs hns hsz HIH
      go_enter Tryd.func38, Tryd.ntmps38
      go_wp2_with fail
      refine (HVC.out _).mono ?_; rintro e w1 ⟨rfl, hw1⟩
      have hW1 := hA.trans (hw1.mono (by simp))
      have c0 : w1.cell? ⟨w.heap.size, 0, none⟩ = some (.int .i64 2) := (hw1.cell (by simp)).trans (by simp [go_sem])
      have c1 : w1.cell? ⟨w.heap.size, 1, none⟩ = some (.int .i64 0) := (hw1.cell (by simp)).trans (by simp [go_sem])
      have c2 : w1.cell? ⟨w.heap.size, 2, none⟩ = some (.string t) := (hw1.cell (by simp)).trans (by simp [go_sem])
      have c3 : w1.cell? ⟨w.heap.size, 3, none⟩ = some (.slice A ks.length ck) := (hw1.cell (by simp)).trans (by simp [go_sem])
      have c4 : w1.cell? ⟨w.heap.size, 4, none⟩ = some (.slice A2 ns.length cc) := (hw1.cell (by simp)).trans (by simp [go_sem])
      go_wp2_with fail
      go_ret
      exact ⟨by rw [HE.out]; rfl, hW1⟩
    have ha3 : ks.length < 1 := by omega
    have HAN : Hid (ks = []) := List.eq_nil_of_length_eq_zero (by omega)
    clear ha0
    have HE : Hid (V = true) := by show _ = _; rw [HV.out, HAN.out, HBN.out]; simp [bareF, *]
    clear HV hks hxs hns hsz HIH
    go_enter Tryd.func38, Tryd.ntmps38
    go_wp2_with fail
    refine (HVC.out _).mono ?_; rintro e w1 ⟨rfl, hw1⟩
    have hW1 := hA.trans (hw1.mono (by simp))
    have c0 : w1.cell? ⟨w.heap.size, 0, none⟩ = some (.int .i64 2) := (hw1.cell (by simp)).trans (by simp [go_sem])
    have c1 : w1.cell? ⟨w.heap.size, 1, none⟩ = some (.int .i64 0) := (hw1.cell (by simp)).trans (by simp [go_sem])
    have c2 : w1.cell? ⟨w.heap.size, 2, none⟩ = some (.string t) := (hw1.cell (by simp)).trans (by simp [go_sem])
    have c3 : w1.cell? ⟨w.heap.size, 3, none⟩ = some (.slice A ks.length ck) := (hw1.cell (by simp)).trans (by simp [go_sem])
    have c4 : w1.cell? ⟨w.heap.size, 4, none⟩ = some (.slice A2 ns.length cc) := (hw1.cell (by simp)).trans (by simp [go_sem])
    go_wp2_with fail
    refine wp_loop_rounds 1 ?_; rw [rounds_succ]
    go_wp2_with fail
    refine wp_loop_rounds 1 ?_; rw [rounds_succ]
    go_wp2_with fail
    go_ret
    exact ⟨by rw [HE.out]; rfl, hW1⟩
  · by_cases hn : num = 0
    case neg =>
      have HE : Hid (V = false) := by show _ = _; rw [HV.out]; simp [bareF, hn]
      clear HV hks hxs hns hsz HIH
      go_enter Tryd.func38, Tryd.ntmps38
      go_wp2_with fail
      go_ret
      exact ⟨by rw [HE.out]; rfl, hA⟩
    subst hn
    by_cases ht0 : t = ⟨#[]⟩
    case neg =>
      have ht2 : decide (t = ⟨#[]⟩) = false := decide_eq_false ht0
      have ht3 : ¬ t.toList = [] := fun h => ht0 (by cases t with | mk d => rw [ByteArray.toList_eq] at h; simp at h; rw [h])
      have ht4 : t.toList.isEmpty = false := by simp [ht3]
      have HE : Hid (V = false) := by show _ = _; rw [HV.out]; simp [bareF, ht0]
      clear HV hks hxs hns hsz HIH
      go_enter Tryd.func38, Tryd.ntmps38
      go_wp2_with fail
      go_ret
      exact ⟨by rw [HE.out]; rfl, hA⟩
    have ht2 : decide (t = ⟨#[]⟩) = true := decide_eq_true ht0
    have ht3 : t.toList = [] := by rw [ht0, ByteArray.toList_eq]
    have ht4 : t.toList.isEmpty = true := by rw [ht3]; rfl
    have hvt : validB t.toList = true := by rw [ht3]; exact validB_nil
    rw [hvt] at HVC
    rw [ht3] at HV
    clear hvt ht0
    by_cases hb0 : 0 < ns.length
    case pos =>
      have hb2 : ns ≠ [] := fun h => by rw [h] at hb0; simp at hb0
      have HE : Hid (V = false) := by show _ = _; rw [HV.out]; simp [bareF, hb2]
      clear HV hks hxs hns hsz HIH
      go_enter Tryd.func38, Tryd.ntmps38
      go_wp2_with fail
      refine (HVC.out _).mono ?_; rintro e w1 ⟨rfl, hw1⟩
      have hW1 := hA.trans (hw1.mono (by simp))
      have c0 : w1.cell? ⟨w.heap.size, 0, none⟩ = some (.int .i64 3) := (hw1.cell (by simp)).trans (by simp [go_sem])
      have c1 : w1.cell? ⟨w.heap.size, 1, none⟩ = some (.int .i64 0) := (hw1.cell (by simp)).trans (by simp [go_sem])
      have c2 : w1.cell? ⟨w.heap.size, 2, none⟩ = some (.string t) := (hw1.cell (by simp)).trans (by simp [go_sem])
      have c3 : w1.cell? ⟨w.heap.size, 3, none⟩ = some (.slice A ks.length ck) := (hw1.cell (by simp)).trans (by simp [go_sem])
      have c4 : w1.cell? ⟨w.heap.size, 4, none⟩ = some (.slice A2 ns.length cc) := (hw1.cell (by simp)).trans (by simp [go_sem])
      go_wp2_with fail
      go_ret
      exact ⟨by rw [HE.out]; rfl, hW1⟩
    have hb3 : ns.length < 1 := by omega
    have HBN : Hid (ns = []) := List.eq_nil_of_length_eq_zero (by omega)
    clear hb0
    by_cases ha0 : 0 < ks.length
    case pos =>
      have ha2 : ks ≠ [] := fun h => by rw [h] at ha0; simp at ha0
      have HE : Hid (V = false) := by show _ = _; rw [HV.out]; simp [bareF, ha2]
      clear HV hks hxs hns hsz HIH
      go_enter Tryd.func38, Tryd.ntmps38
      go_wp2_with fail
      refine (HVC.out _).mono ?_; rintro e w1 ⟨rfl, hw1⟩
      have hW1 := hA.trans (hw1.mono (by simp))
      have c0 : w1.cell? ⟨w.heap.size, 0, none⟩ = some (.int .i64 3) := (hw1.cell (by simp)).trans (by simp [go_sem])
      have c1 : w1.cell? ⟨w.heap.size, 1, none⟩ = some (.int .i64 0) := (hw1.cell (by simp)).trans (by simp [go_sem])
      have c2 : w1.cell? ⟨w.heap.size, 2, none⟩ = some (.string t) := (hw1.cell (by simp)).trans (by simp [go_sem])
      have c3 : w1.cell? ⟨w.heap.size, 3, none⟩ = some (.slice A ks.length ck) := (hw1.cell (by simp)).trans (by simp [go_sem])
      have c4 : w1.cell? ⟨w.heap.size, 4, none⟩ = some (.slice A2 ns.length cc) := (hw1.cell (by simp)).trans (by simp [go_sem])
      go_wp2_with fail
      go_ret
      exact ⟨by rw [HE.out]; rfl, hW1⟩
    have ha3 : ks.length < 1 := by omega
    have HAN : Hid (ks = []) := List.eq_nil_of_length_eq_zero (by omega)
    clear ha0
    have HE : Hid (V = true) := by show _ = _; rw [HV.out, HAN.out, HBN.out]; simp [bareF, *]
    clear HV hks hxs hns hsz HIH
    go_enter Tryd.func38, Tryd.ntmps38
    go_wp2_with fail
    refine (HVC.out _).mono ?_; rintro e w1 ⟨rfl, hw1⟩
    have hW1 := hA.trans (hw1.mono (by simp))
    have c0 : w1.cell? ⟨w.heap.size, 0, none⟩ = some (.int .i64 3) := (hw1.cell (by simp)).trans (by simp [go_sem])
    have c1 : w1.cell? ⟨w.heap.size, 1, none⟩ = some (.int .i64 0) := (hw1.cell (by simp)).trans (by simp [go_sem])
    have c2 : w1.cell? ⟨w.heap.size, 2, none⟩ = some (.string t) := (hw1.cell (by simp)).trans (by simp [go_sem])
    have c3 : w1.cell? ⟨w.heap.size, 3, none⟩ = some (.slice A ks.length ck) := (hw1.cell (by simp)).trans (by simp [go_sem])
    have c4 : w1.cell? ⟨w.heap.size, 4, none⟩ = some (.slice A2 ns.length cc) := (hw1.cell (by simp)).trans (by simp [go_sem])
    go_wp2_with fail
    refine wp_loop_rounds 1 ?_; rw [rounds_succ]
    go_wp2_with fail
    refine wp_loop_rounds 1 ?_; rw [rounds_succ]
    go_wp2_with fail
    go_ret
    exact ⟨by rw [HE.out]; rfl, hW1⟩
set_option maxRecDepth 100000 in
set_option maxHeartbeats 3000000 in
theorem rright_num (k num : Int) (t : ByteArray) (ks : List ByteArray) (ns : List Nd) (A A2 : Option Addr) (ck cc : Nat) (xs : List Value) (w : World) (B : Nat) (deep : Int)
    (hks : Reads w B 1 A ks.length (ks.map Value.string)) (hxs : Reads w B 5 A2 ns.length xs) (hns : NdsIs w B ns xs) (ht : t.size ≤ 9223372036854775807) (hsz : ∀ s ∈ ks, s.size ≤ 9223372036854775807) (hk1 : ks.length ≤ 9223372036854775807) (hk2 : ns.length ≤ 9223372036854775807)
    (hB : B ≤ w.heap.size) (d0 : 0 ≤ deep) (d1 : deep ≤ 24) (HIH : Hid (RrightHyp B ns)) (hk : k = 4) :
    Calls Tryd.prog 38 #[.agg #[.int .i64 k, .int .i64 num, .string t, .slice A ks.length ck, .slice A2 ns.length cc], .int .i64 deep] w (BoolBel (rightD (.mk k num t ks ns) deep) w) := by
  have hW := Below.refl w.heap.size w
  have HV : Hid (_ = _) := rightD_eq k num t ks ns deep
  have HVC : Hid (∀ w' : World, Calls Tryd.prog 53 #[.string t] w' fun e w'' => e = .returned (.bool (validB t.toList)) ∧ Below w'.heap.size w' w'') := fun w' => rvalid_any t w' ht
  have hA : Below w.heap.size w (w.alloc (.cells #[.int .i64 k, .int .i64 num, .string t, .slice A ks.length ck, .slice A2 ns.length cc] 25)) := hW.alloc hW.size _
  generalize rightD (.mk k num t ks ns) deep = V at *
  subst hk
  cases e1 : decide (9007199254740991 < num) with
  | true =>
    have HE : Hid (V = false) := by show _ = _; rw [HV.out]; have h9 := of_decide_eq_true e1; simp; omega
    clear HV hks hxs hns hsz HIH
    go_enter Tryd.func38, Tryd.ntmps38
    go_wp2_with fail
    go_ret
    exact ⟨by rw [HE.out]; rfl, hA⟩
  | false =>
  cases e2 : decide (num < -9007199254740991) with
  | true =>
    have HE : Hid (V = false) := by show _ = _; rw [HV.out]; have h9 := of_decide_eq_true e2; simp; omega
    clear HV hks hxs hns hsz HIH
    go_enter Tryd.func38, Tryd.ntmps38
    go_wp2_with fail
    go_ret
    exact ⟨by rw [HE.out]; rfl, hA⟩
  | false =>
  by_cases ht0 : t = ⟨#[]⟩
  case neg =>
    have ht2 : decide (t = ⟨#[]⟩) = false := decide_eq_false ht0
    have ht3 : ¬ t.toList = [] := fun h => ht0 (by cases t with | mk d => rw [ByteArray.toList_eq] at h; simp at h; rw [h])
    have ht4 : t.toList.isEmpty = false := by simp [ht3]
    have HE : Hid (V = false) := by show _ = _; rw [HV.out]; simp [bareF, ht0]
    clear HV hks hxs hns hsz HIH
    go_enter Tryd.func38, Tryd.ntmps38
    go_wp2_with fail
    go_ret
    exact ⟨by rw [HE.out]; rfl, hA⟩
  have ht2 : decide (t = ⟨#[]⟩) = true := decide_eq_true ht0
  have ht3 : t.toList = [] := by rw [ht0, ByteArray.toList_eq]
  have ht4 : t.toList.isEmpty = true := by rw [ht3]; rfl
  have hvt : validB t.toList = true := by rw [ht3]; exact validB_nil
  rw [hvt] at HVC
  rw [ht3] at HV
  clear hvt ht0
  by_cases hb0 : 0 < ns.length
  case pos =>
    have hb2 : ns ≠ [] := fun h => by rw [h] at hb0; simp at hb0
    have HE : Hid (V = false) := by show _ = _; rw [HV.out]; simp [bareF, hb2]
    clear HV hks hxs hns hsz HIH
    go_enter Tryd.func38, Tryd.ntmps38
    go_wp2_with fail
    refine (HVC.out _).mono ?_; rintro e w1 ⟨rfl, hw1⟩
    have hW1 := hA.trans (hw1.mono (by simp))
    have c0 : w1.cell? ⟨w.heap.size, 0, none⟩ = some (.int .i64 4) := (hw1.cell (by simp)).trans (by simp [go_sem])
    have c1 : w1.cell? ⟨w.heap.size, 1, none⟩ = some (.int .i64 num) := (hw1.cell (by simp)).trans (by simp [go_sem])
    have c2 : w1.cell? ⟨w.heap.size, 2, none⟩ = some (.string t) := (hw1.cell (by simp)).trans (by simp [go_sem])
    have c3 : w1.cell? ⟨w.heap.size, 3, none⟩ = some (.slice A ks.length ck) := (hw1.cell (by simp)).trans (by simp [go_sem])
    have c4 : w1.cell? ⟨w.heap.size, 4, none⟩ = some (.slice A2 ns.length cc) := (hw1.cell (by simp)).trans (by simp [go_sem])
    go_wp2_with fail
    go_ret
    exact ⟨by rw [HE.out]; rfl, hW1⟩
  have hb3 : ns.length < 1 := by omega
  have HBN : Hid (ns = []) := List.eq_nil_of_length_eq_zero (by omega)
  clear hb0
  by_cases ha0 : 0 < ks.length
  case pos =>
    have ha2 : ks ≠ [] := fun h => by rw [h] at ha0; simp at ha0
    have HE : Hid (V = false) := by show _ = _; rw [HV.out]; simp [bareF, ha2]
    clear HV hks hxs hns hsz HIH
    go_enter Tryd.func38, Tryd.ntmps38
    go_wp2_with fail
    refine (HVC.out _).mono ?_; rintro e w1 ⟨rfl, hw1⟩
    have hW1 := hA.trans (hw1.mono (by simp))
    have c0 : w1.cell? ⟨w.heap.size, 0, none⟩ = some (.int .i64 4) := (hw1.cell (by simp)).trans (by simp [go_sem])
    have c1 : w1.cell? ⟨w.heap.size, 1, none⟩ = some (.int .i64 num) := (hw1.cell (by simp)).trans (by simp [go_sem])
    have c2 : w1.cell? ⟨w.heap.size, 2, none⟩ = some (.string t) := (hw1.cell (by simp)).trans (by simp [go_sem])
    have c3 : w1.cell? ⟨w.heap.size, 3, none⟩ = some (.slice A ks.length ck) := (hw1.cell (by simp)).trans (by simp [go_sem])
    have c4 : w1.cell? ⟨w.heap.size, 4, none⟩ = some (.slice A2 ns.length cc) := (hw1.cell (by simp)).trans (by simp [go_sem])
    go_wp2_with fail
    go_ret
    exact ⟨by rw [HE.out]; rfl, hW1⟩
  have ha3 : ks.length < 1 := by omega
  have HAN : Hid (ks = []) := List.eq_nil_of_length_eq_zero (by omega)
  clear ha0
  have HE : Hid (V = true) := by show _ = _; rw [HV.out, HAN.out, HBN.out]; have h8 := of_decide_eq_false e1; have h9 := of_decide_eq_false e2; simp [bareF, *]; omega
  clear HV hks hxs hns hsz HIH
  go_enter Tryd.func38, Tryd.ntmps38
  go_wp2_with fail
  refine (HVC.out _).mono ?_; rintro e w1 ⟨rfl, hw1⟩
  have hW1 := hA.trans (hw1.mono (by simp))
  have c0 : w1.cell? ⟨w.heap.size, 0, none⟩ = some (.int .i64 4) := (hw1.cell (by simp)).trans (by simp [go_sem])
  have c1 : w1.cell? ⟨w.heap.size, 1, none⟩ = some (.int .i64 num) := (hw1.cell (by simp)).trans (by simp [go_sem])
  have c2 : w1.cell? ⟨w.heap.size, 2, none⟩ = some (.string t) := (hw1.cell (by simp)).trans (by simp [go_sem])
  have c3 : w1.cell? ⟨w.heap.size, 3, none⟩ = some (.slice A ks.length ck) := (hw1.cell (by simp)).trans (by simp [go_sem])
  have c4 : w1.cell? ⟨w.heap.size, 4, none⟩ = some (.slice A2 ns.length cc) := (hw1.cell (by simp)).trans (by simp [go_sem])
  go_wp2_with fail
  refine wp_loop_rounds 1 ?_; rw [rounds_succ]
  go_wp2_with fail
  refine wp_loop_rounds 1 ?_; rw [rounds_succ]
  go_wp2_with fail
  go_ret
  exact ⟨by rw [HE.out]; rfl, hW1⟩
set_option maxRecDepth 100000 in
set_option maxHeartbeats 3000000 in
theorem rright_str (k num : Int) (t : ByteArray) (ks : List ByteArray) (ns : List Nd) (A A2 : Option Addr) (ck cc : Nat) (xs : List Value) (w : World) (B : Nat) (deep : Int)
    (hks : Reads w B 1 A ks.length (ks.map Value.string)) (hxs : Reads w B 5 A2 ns.length xs) (hns : NdsIs w B ns xs) (ht : t.size ≤ 9223372036854775807) (hsz : ∀ s ∈ ks, s.size ≤ 9223372036854775807) (hk1 : ks.length ≤ 9223372036854775807) (hk2 : ns.length ≤ 9223372036854775807)
    (hB : B ≤ w.heap.size) (d0 : 0 ≤ deep) (d1 : deep ≤ 24) (HIH : Hid (RrightHyp B ns)) (hk : k = 5) :
    Calls Tryd.prog 38 #[.agg #[.int .i64 k, .int .i64 num, .string t, .slice A ks.length ck, .slice A2 ns.length cc], .int .i64 deep] w (BoolBel (rightD (.mk k num t ks ns) deep) w) := by
  have hW := Below.refl w.heap.size w
  have HV : Hid (_ = _) := rightD_eq k num t ks ns deep
  have HVC : Hid (∀ w' : World, Calls Tryd.prog 53 #[.string t] w' fun e w'' => e = .returned (.bool (validB t.toList)) ∧ Below w'.heap.size w' w'') := fun w' => rvalid_any t w' ht
  have hA : Below w.heap.size w (w.alloc (.cells #[.int .i64 k, .int .i64 num, .string t, .slice A ks.length ck, .slice A2 ns.length cc] 25)) := hW.alloc hW.size _
  generalize rightD (.mk k num t ks ns) deep = V at *
  subst hk
  by_cases hn : num = 0
  case neg =>
    have HE : Hid (V = false) := by show _ = _; rw [HV.out]; simp [bareF, hn]
    clear HV hks hxs hns hsz HIH
    go_enter Tryd.func38, Tryd.ntmps38
    go_wp2_with fail
    go_ret
    exact ⟨by rw [HE.out]; rfl, hA⟩
  subst hn
  generalize validB t.toList = vl at *
  cases vl with
  | false =>
    have HE : Hid (V = false) := by show _ = _; rw [HV.out]; simp
    clear HV hks hxs hns hsz HIH
    go_enter Tryd.func38, Tryd.ntmps38
    go_wp2_with fail
    refine (HVC.out _).mono ?_; rintro e w1 ⟨rfl, hw1⟩
    have hW1 := hA.trans (hw1.mono (by simp))
    have c0 : w1.cell? ⟨w.heap.size, 0, none⟩ = some (.int .i64 5) := (hw1.cell (by simp)).trans (by simp [go_sem])
    have c1 : w1.cell? ⟨w.heap.size, 1, none⟩ = some (.int .i64 0) := (hw1.cell (by simp)).trans (by simp [go_sem])
    have c2 : w1.cell? ⟨w.heap.size, 2, none⟩ = some (.string t) := (hw1.cell (by simp)).trans (by simp [go_sem])
    have c3 : w1.cell? ⟨w.heap.size, 3, none⟩ = some (.slice A ks.length ck) := (hw1.cell (by simp)).trans (by simp [go_sem])
    have c4 : w1.cell? ⟨w.heap.size, 4, none⟩ = some (.slice A2 ns.length cc) := (hw1.cell (by simp)).trans (by simp [go_sem])
    go_wp2_with fail
    go_ret
    exact ⟨by rw [HE.out]; rfl, hW1⟩
  | true =>
  by_cases hb0 : 0 < ns.length
  case pos =>
    have hb2 : ns ≠ [] := fun h => by rw [h] at hb0; simp at hb0
    have HE : Hid (V = false) := by show _ = _; rw [HV.out]; simp [bareF, hb2]
    clear HV hks hxs hns hsz HIH
    go_enter Tryd.func38, Tryd.ntmps38
    go_wp2_with fail
    refine (HVC.out _).mono ?_; rintro e w1 ⟨rfl, hw1⟩
    have hW1 := hA.trans (hw1.mono (by simp))
    have c0 : w1.cell? ⟨w.heap.size, 0, none⟩ = some (.int .i64 5) := (hw1.cell (by simp)).trans (by simp [go_sem])
    have c1 : w1.cell? ⟨w.heap.size, 1, none⟩ = some (.int .i64 0) := (hw1.cell (by simp)).trans (by simp [go_sem])
    have c2 : w1.cell? ⟨w.heap.size, 2, none⟩ = some (.string t) := (hw1.cell (by simp)).trans (by simp [go_sem])
    have c3 : w1.cell? ⟨w.heap.size, 3, none⟩ = some (.slice A ks.length ck) := (hw1.cell (by simp)).trans (by simp [go_sem])
    have c4 : w1.cell? ⟨w.heap.size, 4, none⟩ = some (.slice A2 ns.length cc) := (hw1.cell (by simp)).trans (by simp [go_sem])
    go_wp2_with fail
    go_ret
    exact ⟨by rw [HE.out]; rfl, hW1⟩
  have hb3 : ns.length < 1 := by omega
  have HBN : Hid (ns = []) := List.eq_nil_of_length_eq_zero (by omega)
  clear hb0
  by_cases ha0 : 0 < ks.length
  case pos =>
    have ha2 : ks ≠ [] := fun h => by rw [h] at ha0; simp at ha0
    have HE : Hid (V = false) := by show _ = _; rw [HV.out]; simp [bareF, ha2]
    clear HV hks hxs hns hsz HIH
    go_enter Tryd.func38, Tryd.ntmps38
    go_wp2_with fail
    refine (HVC.out _).mono ?_; rintro e w1 ⟨rfl, hw1⟩
    have hW1 := hA.trans (hw1.mono (by simp))
    have c0 : w1.cell? ⟨w.heap.size, 0, none⟩ = some (.int .i64 5) := (hw1.cell (by simp)).trans (by simp [go_sem])
    have c1 : w1.cell? ⟨w.heap.size, 1, none⟩ = some (.int .i64 0) := (hw1.cell (by simp)).trans (by simp [go_sem])
    have c2 : w1.cell? ⟨w.heap.size, 2, none⟩ = some (.string t) := (hw1.cell (by simp)).trans (by simp [go_sem])
    have c3 : w1.cell? ⟨w.heap.size, 3, none⟩ = some (.slice A ks.length ck) := (hw1.cell (by simp)).trans (by simp [go_sem])
    have c4 : w1.cell? ⟨w.heap.size, 4, none⟩ = some (.slice A2 ns.length cc) := (hw1.cell (by simp)).trans (by simp [go_sem])
    go_wp2_with fail
    go_ret
    exact ⟨by rw [HE.out]; rfl, hW1⟩
  have ha3 : ks.length < 1 := by omega
  have HAN : Hid (ks = []) := List.eq_nil_of_length_eq_zero (by omega)
  clear ha0
  have HE : Hid (V = true) := by show _ = _; rw [HV.out, HAN.out, HBN.out]; simp [bareF, *]
  clear HV hks hxs hns hsz HIH
  go_enter Tryd.func38, Tryd.ntmps38
  go_wp2_with fail
  refine (HVC.out _).mono ?_; rintro e w1 ⟨rfl, hw1⟩
  have hW1 := hA.trans (hw1.mono (by simp))
  have c0 : w1.cell? ⟨w.heap.size, 0, none⟩ = some (.int .i64 5) := (hw1.cell (by simp)).trans (by simp [go_sem])
  have c1 : w1.cell? ⟨w.heap.size, 1, none⟩ = some (.int .i64 0) := (hw1.cell (by simp)).trans (by simp [go_sem])
  have c2 : w1.cell? ⟨w.heap.size, 2, none⟩ = some (.string t) := (hw1.cell (by simp)).trans (by simp [go_sem])
  have c3 : w1.cell? ⟨w.heap.size, 3, none⟩ = some (.slice A ks.length ck) := (hw1.cell (by simp)).trans (by simp [go_sem])
  have c4 : w1.cell? ⟨w.heap.size, 4, none⟩ = some (.slice A2 ns.length cc) := (hw1.cell (by simp)).trans (by simp [go_sem])
  go_wp2_with fail
  refine wp_loop_rounds 1 ?_; rw [rounds_succ]
  go_wp2_with fail
  refine wp_loop_rounds 1 ?_; rw [rounds_succ]
  go_wp2_with fail
  go_ret
  exact ⟨by rw [HE.out]; rfl, hW1⟩
set_option maxRecDepth 100000 in
set_option maxHeartbeats 3000000 in
theorem rright_odd (k num : Int) (t : ByteArray) (ks : List ByteArray) (ns : List Nd) (A A2 : Option Addr) (ck cc : Nat) (xs : List Value) (w : World) (B : Nat) (deep : Int)
    (hks : Reads w B 1 A ks.length (ks.map Value.string)) (hxs : Reads w B 5 A2 ns.length xs) (hns : NdsIs w B ns xs) (ht : t.size ≤ 9223372036854775807) (hsz : ∀ s ∈ ks, s.size ≤ 9223372036854775807) (hk1 : ks.length ≤ 9223372036854775807) (hk2 : ns.length ≤ 9223372036854775807)
    (hB : B ≤ w.heap.size) (d0 : 0 ≤ deep) (d1 : deep ≤ 24) (HIH : Hid (RrightHyp B ns)) (hk : k < 1 ∨ 7 < k) :
    Calls Tryd.prog 38 #[.agg #[.int .i64 k, .int .i64 num, .string t, .slice A ks.length ck, .slice A2 ns.length cc], .int .i64 deep] w (BoolBel (rightD (.mk k num t ks ns) deep) w) := by
  have hW := Below.refl w.heap.size w
  have HV : Hid (_ = _) := rightD_eq k num t ks ns deep
  have HVC : Hid (∀ w' : World, Calls Tryd.prog 53 #[.string t] w' fun e w'' => e = .returned (.bool (validB t.toList)) ∧ Below w'.heap.size w' w'') := fun w' => rvalid_any t w' ht
  have hA : Below w.heap.size w (w.alloc (.cells #[.int .i64 k, .int .i64 num, .string t, .slice A ks.length ck, .slice A2 ns.length cc] 25)) := hW.alloc hW.size _
  generalize rightD (.mk k num t ks ns) deep = V at *
  have e : ∀ m : Int, 1 ≤ m → m ≤ 7 → (k == m) = false := fun m h1 h2 => by simp; omega
  have HE : Hid (V = false) := by show _ = _; rw [HV.out]; simp [e 1 (by omega) (by omega), e 2 (by omega) (by omega), e 3 (by omega) (by omega), e 4 (by omega) (by omega), e 5 (by omega) (by omega), e 6 (by omega) (by omega), e 7 (by omega) (by omega)]
  clear HV hks hxs hns hsz HIH e
  rcases hk with hk | hk
  · go_enter Tryd.func38, Tryd.ntmps38
    go_wp2_with fail
    go_ret
    exact ⟨by rw [HE.out]; rfl, hA⟩
  · go_enter Tryd.func38, Tryd.ntmps38
    go_wp2_with fail
    go_ret
    exact ⟨by rw [HE.out]; rfl, hA⟩
end Go.Proofs.YtnbfagignbbmfaaDoor
/-! The walk of the reference's right: an array. -/
namespace Go.Proofs.YtnbfagignbbmfaaDoor
open Go.RowKit Go.PlainAid
set_option linter.unusedVariables false
set_option linter.unusedSimpArgs false
set_option maxRecDepth 100000 in
set_option maxHeartbeats 3000000 in
theorem rright_arr (k num : Int) (t : ByteArray) (ks : List ByteArray) (ns : List Nd) (A A2 : Option Addr) (ck cc : Nat) (xs : List Value) (w : World) (B : Nat) (deep : Int)
    (hks : Reads w B 1 A ks.length (ks.map Value.string)) (hxs : Reads w B 5 A2 ns.length xs) (hns : NdsIs w B ns xs) (ht : t.size ≤ 9223372036854775807) (hsz : ∀ s ∈ ks, s.size ≤ 9223372036854775807) (hk1 : ks.length ≤ 9223372036854775807) (hk2 : ns.length ≤ 9223372036854775807)
    (hB : B ≤ w.heap.size) (d0 : 0 ≤ deep) (d1 : deep ≤ 24) (HIH : Hid (RrightHyp B ns)) (hk : k = 6) :
    Calls Tryd.prog 38 #[.agg #[.int .i64 k, .int .i64 num, .string t, .slice A ks.length ck, .slice A2 ns.length cc], .int .i64 deep] w (BoolBel (rightD (.mk k num t ks ns) deep) w) := by
  have hW := Below.refl w.heap.size w
  have HV : Hid (_ = _) := rightD_eq k num t ks ns deep
  have HVC : Hid (∀ w' : World, Calls Tryd.prog 53 #[.string t] w' fun e w'' => e = .returned (.bool (validB t.toList)) ∧ Below w'.heap.size w' w'') := fun w' => rvalid_any t w' ht
  have hA : Below w.heap.size w (w.alloc (.cells #[.int .i64 k, .int .i64 num, .string t, .slice A ks.length ck, .slice A2 ns.length cc] 25)) := hW.alloc hW.size _
  generalize rightD (.mk k num t ks ns) deep = V at *
  subst hk
  by_cases hn : num = 0
  case neg =>
    have HE : Hid (V = false) := by show _ = _; rw [HV.out]; simp [bareF, hn]
    clear HV hks hxs hns hsz HIH
    go_enter Tryd.func38, Tryd.ntmps38
    go_wp2_with fail
    go_ret
    exact ⟨by rw [HE.out]; rfl, hA⟩
  subst hn
  by_cases ht0 : t = ⟨#[]⟩
  case neg =>
    have ht2 : decide (t = ⟨#[]⟩) = false := decide_eq_false ht0
    have ht3 : ¬ t.toList = [] := fun h => ht0 (by cases t with | mk d => rw [ByteArray.toList_eq] at h; simp at h; rw [h])
    have ht4 : t.toList.isEmpty = false := by simp [ht3]
    have HE : Hid (V = false) := by show _ = _; rw [HV.out]; simp [bareF, ht0]
    clear HV hks hxs hns hsz HIH
    go_enter Tryd.func38, Tryd.ntmps38
    go_wp2_with fail
    go_ret
    exact ⟨by rw [HE.out]; rfl, hA⟩
  have ht2 : decide (t = ⟨#[]⟩) = true := decide_eq_true ht0
  have ht3 : t.toList = [] := by rw [ht0, ByteArray.toList_eq]
  have ht4 : t.toList.isEmpty = true := by rw [ht3]; rfl
  have hvt : validB t.toList = true := by rw [ht3]; exact validB_nil
  rw [hvt] at HVC
  rw [ht3] at HV
  clear hvt ht0
  by_cases ha0 : 0 < ks.length
  case pos =>
    have ha2 : ks ≠ [] := fun h => by rw [h] at ha0; simp at ha0
    have HE : Hid (V = false) := by show _ = _; rw [HV.out]; simp [bareF, ha2]
    clear HV hks hxs hns hsz HIH
    go_enter Tryd.func38, Tryd.ntmps38
    go_wp2_with fail
    refine (HVC.out _).mono ?_; rintro e w1 ⟨rfl, hw1⟩
    have hW1 := hA.trans (hw1.mono (by simp))
    have c0 : w1.cell? ⟨w.heap.size, 0, none⟩ = some (.int .i64 6) := (hw1.cell (by simp)).trans (by simp [go_sem])
    have c1 : w1.cell? ⟨w.heap.size, 1, none⟩ = some (.int .i64 0) := (hw1.cell (by simp)).trans (by simp [go_sem])
    have c2 : w1.cell? ⟨w.heap.size, 2, none⟩ = some (.string t) := (hw1.cell (by simp)).trans (by simp [go_sem])
    have c3 : w1.cell? ⟨w.heap.size, 3, none⟩ = some (.slice A ks.length ck) := (hw1.cell (by simp)).trans (by simp [go_sem])
    have c4 : w1.cell? ⟨w.heap.size, 4, none⟩ = some (.slice A2 ns.length cc) := (hw1.cell (by simp)).trans (by simp [go_sem])
    go_wp2_with fail
    go_ret
    exact ⟨by rw [HE.out]; rfl, hW1⟩
  have ha3 : ks.length < 1 := by omega
  have HAN : Hid (ks = []) := List.eq_nil_of_length_eq_zero (by omega)
  clear ha0
  by_cases hd : 24 ≤ deep
  case pos =>
    have HE : Hid (V = false) := by show _ = _; rw [HV.out]; (have hd' : ¬ deep < 24 := by omega); simp [hd']
    clear HV hks hxs hns hsz HIH
    go_enter Tryd.func38, Tryd.ntmps38
    go_wp2_with fail
    refine (HVC.out _).mono ?_; rintro e w1 ⟨rfl, hw1⟩
    have hW1 := hA.trans (hw1.mono (by simp))
    have c0 : w1.cell? ⟨w.heap.size, 0, none⟩ = some (.int .i64 6) := (hw1.cell (by simp)).trans (by simp [go_sem])
    have c1 : w1.cell? ⟨w.heap.size, 1, none⟩ = some (.int .i64 0) := (hw1.cell (by simp)).trans (by simp [go_sem])
    have c2 : w1.cell? ⟨w.heap.size, 2, none⟩ = some (.string t) := (hw1.cell (by simp)).trans (by simp [go_sem])
    have c3 : w1.cell? ⟨w.heap.size, 3, none⟩ = some (.slice A ks.length ck) := (hw1.cell (by simp)).trans (by simp [go_sem])
    have c4 : w1.cell? ⟨w.heap.size, 4, none⟩ = some (.slice A2 ns.length cc) := (hw1.cell (by simp)).trans (by simp [go_sem])
    go_wp2_with fail
    go_ret
    exact ⟨by rw [HE.out]; rfl, hW1⟩
  have hd' : deep < 24 := by omega
  have HV2 : Hid (V = (rightLD (ns.drop 0) (deep + 1) && keysB ks)) := by show _ = _; rw [HV.out, HAN.out]; simp [bareF, ht2, hd', keysB_nil]
  clear HV hd
  have HXS := Lib.hid hxs
  have HKS := Lib.hid hks
  have HNS := Lib.hid hns
  have HSZ := Lib.hid hsz
  have HD : Hid (0 ≤ deep ∧ deep < 24) := ⟨d0, hd'⟩
  clear hks hxs hns hsz
  go_enter Tryd.func38, Tryd.ntmps38
  go_wp2_with fail
  refine (HVC.out _).mono ?_; rintro e w1 ⟨rfl, hw1⟩
  have hx1 : Blk w1 w.heap.size 25 #[.int .i64 6, .int .i64 0, .string t, .slice A ks.length ck, .slice A2 ns.length cc] := (Blk.new w _ _).below hw1 (by simp)
  have hz1 : w.heap.size < w1.heap.size := by have := hw1.size; simp at this; omega
  have hW1 := hA.trans (hw1.mono (by simp))
  have c0 : w1.cell? ⟨w.heap.size, 0, none⟩ = some (.int .i64 6) := (hw1.cell (by simp)).trans (by simp [go_sem])
  have c1 : w1.cell? ⟨w.heap.size, 1, none⟩ = some (.int .i64 0) := (hw1.cell (by simp)).trans (by simp [go_sem])
  have c2 : w1.cell? ⟨w.heap.size, 2, none⟩ = some (.string t) := (hw1.cell (by simp)).trans (by simp [go_sem])
  have c3 : w1.cell? ⟨w.heap.size, 3, none⟩ = some (.slice A ks.length ck) := (hw1.cell (by simp)).trans (by simp [go_sem])
  have c4 : w1.cell? ⟨w.heap.size, 4, none⟩ = some (.slice A2 ns.length cc) := (hw1.cell (by simp)).trans (by simp [go_sem])
  go_wp2_with fail
  have HX1 := Lib.hid hx1
  clear hx1 c0 c1 c2 c3 c4 hw1 d0 d1
  go_loopw [5] (fun t5 wr => ∃ i : Nat, i ≤ ns.length ∧ t5 = .int .i64 i ∧ Hid (V = (rightLD (ns.drop i) (deep + 1) && keysB ks)) ∧ Hid (Blk wr w.heap.size 25 #[.int .i64 6, .int .i64 0, .string t, .slice A ks.length ck, .slice A2 ns.length cc]) ∧ Hid (Below w.heap.size w wr) ∧ w.heap.size < wr.heap.size) (fun t5 _ => ns.length - (intOf t5).toNat)
  case atStart => exact ⟨0, by omega, rfl, HV2, HX1, hW1, hz1⟩
  case round =>
    clear HX1 hW1 hz1
    obtain ⟨i, hi, rfl, hv, hx, hW, hz⟩ := hrel
    obtain ⟨wo, rfl⟩ : ∃ wo : World, wo = wr := ⟨_, rfl⟩
    have c3 : wo.cell? ⟨w.heap.size, 3, none⟩ = some (.slice A ks.length ck) := hx.out.cell 3
    have c4 : wo.cell? ⟨w.heap.size, 4, none⟩ = some (.slice A2 ns.length cc) := hx.out.cell 4
    by_cases hlt : i < ns.length
    · have hkeep : ∀ p : Addr, p.block < B → wo.cell? p = w.cell? p := fun p hp => hW.out.cell (by omega)
      obtain ⟨ad, n, v0, v1, v2, v3, v4, rfl, hadb, hni, hnd, e0, e1, e2, e3, e4⟩ := (HXS.out.keep hkeep).nd (NdsIs.keep hkeep _ _ HNS.out) hlt
      obtain ⟨x0, x1, x2, x3, x4, x5, x6, x7, x8, rfl, rfl, rfl, rfl, rfl⟩ := hnd.form
      have HST := Lib.hid (rightLD_at ns i n (deep + 1) hni)
      have HC : Hid (RrightC #[.int .i64 x0, .int .i64 x1, .string x2, .slice x3 x4 x5, .slice x6 x7 x8] (deep + 1) (rightD n (deep + 1)) wo) := HIH.out i n [.int .i64 x0, .int .i64 x1, .string x2, .slice x3 x4 x5, .slice x6 x7 x8] wo (deep + 1) hni hnd (by omega) (by have := HD.out; omega) (by have := HD.out; omega)
      have i0 : deep + 1 ≤ 25 := by have := HD.out; omega
      have i1 : 0 ≤ deep := HD.out.1
      clear hni hnd hkeep
      generalize rightD n (deep + 1) = b at *
      go_wp2_with fail
      refine (HC.out : Calls _ _ _ _ _).mono ?_; rintro e w2 ⟨rfl, hw2⟩
      have hW2 := hW.out.trans (hw2.mono (by omega))
      cases b with
      | false =>
        have HE : Hid (V = false) := by show _ = _; rw [hv.out, HST.out]; rfl
        go_wp2_with fail
        go_ret
        exact ⟨by rw [HE.out]; rfl, hW2⟩
      | true =>
        have HE : Hid (V = (rightLD (ns.drop (i + 1)) (deep + 1) && keysB ks)) := by show _ = _; rw [hv.out, HST.out]; rfl
        have hx2 : Hid (Blk w2 w.heap.size 25 #[.int .i64 6, .int .i64 0, .string t, .slice A ks.length ck, .slice (some ad) ns.length cc]) := hx.out.below hw2 (by omega)
        have hz2 : w.heap.size < w2.heap.size := by have := hw2.size; omega
        have HW2 := Lib.hid hW2
        clear hW2
        go_wp2_with fail
        go_roundw
        case rel => exact ⟨i + 1, by omega, by go_num, HE, hx2, HW2, hz2⟩
        case measure => simp [intOf]; omega
    · have HE : Hid (V = keysB ks) := by
        show _ = _
        rw [hv.out, List.drop_eq_nil_of_le (show ns.length ≤ i by omega), rightLD_nil]; rfl
      go_wp2_with fail
      clear c3 c4
      go_loopw [6] (fun t6 wr => ∃ i : Nat, i ≤ ks.length ∧ t6 = .int .i64 i ∧ Hid ((ks.take i).Nodup ∧ ∀ s ∈ ks.take i, validB s.toList = true) ∧ Hid (Blk wr w.heap.size 25 #[.int .i64 6, .int .i64 0, .string t, .slice A ks.length ck, .slice A2 ns.length cc]) ∧ Hid (Below w.heap.size w wr) ∧ w.heap.size < wr.heap.size) (fun t6 _ => ks.length - (intOf t6).toNat)
      case atStart => exact ⟨0, by omega, rfl, by constructor <;> simp, hx, hW, hz⟩
      case round =>
        clear hx hW hz
        obtain ⟨i, hi, rfl, hgd, hx, hW, hz⟩ := hrel
        obtain ⟨wo, rfl⟩ : ∃ wo : World, wo = wr := ⟨_, rfl⟩
        have c3 : wo.cell? ⟨w.heap.size, 3, none⟩ = some (.slice A ks.length ck) := hx.out.cell 3
        by_cases hlt : i < ks.length
        · exact absurd hlt (by omega)
        · have HF : Hid (V = true) := by show _ = _; rw [HE.out]; exact keysB_all (show i = ks.length by omega) hgd.out
          go_wp2_with fail
          go_ret
          exact ⟨by rw [HF.out]; rfl, hW.out⟩
end Go.Proofs.YtnbfagignbbmfaaDoor
/-! The walk of the reference's right: an object. -/
namespace Go.Proofs.YtnbfagignbbmfaaDoor
open Go.RowKit Go.PlainAid
set_option linter.unusedVariables false
set_option linter.unusedSimpArgs false
set_option maxRecDepth 100000 in
set_option maxHeartbeats 3000000 in
theorem rright_obj (k num : Int) (t : ByteArray) (ks : List ByteArray) (ns : List Nd) (A A2 : Option Addr) (ck cc : Nat) (xs : List Value) (w : World) (B : Nat) (deep : Int)
    (hks : Reads w B 1 A ks.length (ks.map Value.string)) (hxs : Reads w B 5 A2 ns.length xs) (hns : NdsIs w B ns xs) (ht : t.size ≤ 9223372036854775807) (hsz : ∀ s ∈ ks, s.size ≤ 9223372036854775807) (hk1 : ks.length ≤ 9223372036854775807) (hk2 : ns.length ≤ 9223372036854775807)
    (hB : B ≤ w.heap.size) (d0 : 0 ≤ deep) (d1 : deep ≤ 24) (HIH : Hid (RrightHyp B ns)) (hk : k = 7) :
    Calls Tryd.prog 38 #[.agg #[.int .i64 k, .int .i64 num, .string t, .slice A ks.length ck, .slice A2 ns.length cc], .int .i64 deep] w (BoolBel (rightD (.mk k num t ks ns) deep) w) := by
  have hW := Below.refl w.heap.size w
  have HV : Hid (_ = _) := rightD_eq k num t ks ns deep
  have HVC : Hid (∀ w' : World, Calls Tryd.prog 53 #[.string t] w' fun e w'' => e = .returned (.bool (validB t.toList)) ∧ Below w'.heap.size w' w'') := fun w' => rvalid_any t w' ht
  have hA : Below w.heap.size w (w.alloc (.cells #[.int .i64 k, .int .i64 num, .string t, .slice A ks.length ck, .slice A2 ns.length cc] 25)) := hW.alloc hW.size _
  generalize rightD (.mk k num t ks ns) deep = V at *
  subst hk
  by_cases hn : num = 0
  case neg =>
    have HE : Hid (V = false) := by show _ = _; rw [HV.out]; simp [bareF, hn]
    clear HV hks hxs hns hsz HIH
    go_enter Tryd.func38, Tryd.ntmps38
    go_wp2_with fail
    go_ret
    exact ⟨by rw [HE.out]; rfl, hA⟩
  subst hn
  by_cases ht0 : t = ⟨#[]⟩
  case neg =>
    have ht2 : decide (t = ⟨#[]⟩) = false := decide_eq_false ht0
    have ht3 : ¬ t.toList = [] := fun h => ht0 (by cases t with | mk d => rw [ByteArray.toList_eq] at h; simp at h; rw [h])
    have ht4 : t.toList.isEmpty = false := by simp [ht3]
    have HE : Hid (V = false) := by show _ = _; rw [HV.out]; simp [bareF, ht0]
    clear HV hks hxs hns hsz HIH
    go_enter Tryd.func38, Tryd.ntmps38
    go_wp2_with fail
    go_ret
    exact ⟨by rw [HE.out]; rfl, hA⟩
  have ht2 : decide (t = ⟨#[]⟩) = true := decide_eq_true ht0
  have ht3 : t.toList = [] := by rw [ht0, ByteArray.toList_eq]
  have ht4 : t.toList.isEmpty = true := by rw [ht3]; rfl
  have hvt : validB t.toList = true := by rw [ht3]; exact validB_nil
  rw [hvt] at HVC
  rw [ht3] at HV
  clear hvt ht0
  by_cases hl : ks.length = ns.length
  case neg =>
    have n4 : ((ks.length : Int) != (ns.length : Int)) = true := by rw [bne_iff_ne]; omega
    have HE : Hid (V = false) := by show _ = _; rw [HV.out]; simp [hl]
    clear HV hks hxs hns hsz HIH
    go_enter Tryd.func38, Tryd.ntmps38
    go_wp2_with fail
    refine (HVC.out _).mono ?_; rintro e w1 ⟨rfl, hw1⟩
    have hW1 := hA.trans (hw1.mono (by simp))
    have c0 : w1.cell? ⟨w.heap.size, 0, none⟩ = some (.int .i64 7) := (hw1.cell (by simp)).trans (by simp [go_sem])
    have c1 : w1.cell? ⟨w.heap.size, 1, none⟩ = some (.int .i64 0) := (hw1.cell (by simp)).trans (by simp [go_sem])
    have c2 : w1.cell? ⟨w.heap.size, 2, none⟩ = some (.string t) := (hw1.cell (by simp)).trans (by simp [go_sem])
    have c3 : w1.cell? ⟨w.heap.size, 3, none⟩ = some (.slice A ks.length ck) := (hw1.cell (by simp)).trans (by simp [go_sem])
    have c4 : w1.cell? ⟨w.heap.size, 4, none⟩ = some (.slice A2 ns.length cc) := (hw1.cell (by simp)).trans (by simp [go_sem])
    go_wp2_with fail
    go_ret
    exact ⟨by rw [HE.out]; rfl, hW1⟩
  have n4 : ((ks.length : Int) != (ns.length : Int)) = false := by rw [bne_eq_false_iff_eq]; omega
  have hl2 : decide (ks.length = ns.length) = true := decide_eq_true hl
  clear hl
  by_cases hd : 24 ≤ deep
  case pos =>
    have HE : Hid (V = false) := by show _ = _; rw [HV.out]; (have hd' : ¬ deep < 24 := by omega); simp [hd']
    clear HV hks hxs hns hsz HIH
    go_enter Tryd.func38, Tryd.ntmps38
    go_wp2_with fail
    refine (HVC.out _).mono ?_; rintro e w1 ⟨rfl, hw1⟩
    have hW1 := hA.trans (hw1.mono (by simp))
    have c0 : w1.cell? ⟨w.heap.size, 0, none⟩ = some (.int .i64 7) := (hw1.cell (by simp)).trans (by simp [go_sem])
    have c1 : w1.cell? ⟨w.heap.size, 1, none⟩ = some (.int .i64 0) := (hw1.cell (by simp)).trans (by simp [go_sem])
    have c2 : w1.cell? ⟨w.heap.size, 2, none⟩ = some (.string t) := (hw1.cell (by simp)).trans (by simp [go_sem])
    have c3 : w1.cell? ⟨w.heap.size, 3, none⟩ = some (.slice A ks.length ck) := (hw1.cell (by simp)).trans (by simp [go_sem])
    have c4 : w1.cell? ⟨w.heap.size, 4, none⟩ = some (.slice A2 ns.length cc) := (hw1.cell (by simp)).trans (by simp [go_sem])
    go_wp2_with fail
    go_ret
    exact ⟨by rw [HE.out]; rfl, hW1⟩
  have hd' : deep < 24 := by omega
  have HV2 : Hid (V = (rightLD (ns.drop 0) (deep + 1) && keysB ks)) := by show _ = _; rw [HV.out]; simp [bareF, ht2, hd', hl2]; exact Bool.and_comm _ _
  clear HV hd
  have HXS := Lib.hid hxs
  have HKS := Lib.hid hks
  have HNS := Lib.hid hns
  have HSZ := Lib.hid hsz
  have HD : Hid (0 ≤ deep ∧ deep < 24) := ⟨d0, hd'⟩
  clear hks hxs hns hsz
  go_enter Tryd.func38, Tryd.ntmps38
  go_wp2_with fail
  refine (HVC.out _).mono ?_; rintro e w1 ⟨rfl, hw1⟩
  have hx1 : Blk w1 w.heap.size 25 #[.int .i64 7, .int .i64 0, .string t, .slice A ks.length ck, .slice A2 ns.length cc] := (Blk.new w _ _).below hw1 (by simp)
  have hz1 : w.heap.size < w1.heap.size := by have := hw1.size; simp at this; omega
  have hW1 := hA.trans (hw1.mono (by simp))
  have c0 : w1.cell? ⟨w.heap.size, 0, none⟩ = some (.int .i64 7) := (hw1.cell (by simp)).trans (by simp [go_sem])
  have c1 : w1.cell? ⟨w.heap.size, 1, none⟩ = some (.int .i64 0) := (hw1.cell (by simp)).trans (by simp [go_sem])
  have c2 : w1.cell? ⟨w.heap.size, 2, none⟩ = some (.string t) := (hw1.cell (by simp)).trans (by simp [go_sem])
  have c3 : w1.cell? ⟨w.heap.size, 3, none⟩ = some (.slice A ks.length ck) := (hw1.cell (by simp)).trans (by simp [go_sem])
  have c4 : w1.cell? ⟨w.heap.size, 4, none⟩ = some (.slice A2 ns.length cc) := (hw1.cell (by simp)).trans (by simp [go_sem])
  go_wp2_with fail
  have HX1 := Lib.hid hx1
  clear hx1 c0 c1 c2 c3 c4 hw1 d0 d1
  go_loopw [5] (fun t5 wr => ∃ i : Nat, i ≤ ns.length ∧ t5 = .int .i64 i ∧ Hid (V = (rightLD (ns.drop i) (deep + 1) && keysB ks)) ∧ Hid (Blk wr w.heap.size 25 #[.int .i64 7, .int .i64 0, .string t, .slice A ks.length ck, .slice A2 ns.length cc]) ∧ Hid (Below w.heap.size w wr) ∧ w.heap.size < wr.heap.size) (fun t5 _ => ns.length - (intOf t5).toNat)
  case atStart => exact ⟨0, by omega, rfl, HV2, HX1, hW1, hz1⟩
  case round =>
    clear HX1 hW1 hz1
    obtain ⟨i, hi, rfl, hv, hx, hW, hz⟩ := hrel
    obtain ⟨wo, rfl⟩ : ∃ wo : World, wo = wr := ⟨_, rfl⟩
    have c3 : wo.cell? ⟨w.heap.size, 3, none⟩ = some (.slice A ks.length ck) := hx.out.cell 3
    have c4 : wo.cell? ⟨w.heap.size, 4, none⟩ = some (.slice A2 ns.length cc) := hx.out.cell 4
    by_cases hlt : i < ns.length
    · have hkeep : ∀ p : Addr, p.block < B → wo.cell? p = w.cell? p := fun p hp => hW.out.cell (by omega)
      obtain ⟨ad, n, v0, v1, v2, v3, v4, rfl, hadb, hni, hnd, e0, e1, e2, e3, e4⟩ := (HXS.out.keep hkeep).nd (NdsIs.keep hkeep _ _ HNS.out) hlt
      obtain ⟨x0, x1, x2, x3, x4, x5, x6, x7, x8, rfl, rfl, rfl, rfl, rfl⟩ := hnd.form
      have HST := Lib.hid (rightLD_at ns i n (deep + 1) hni)
      have HC : Hid (RrightC #[.int .i64 x0, .int .i64 x1, .string x2, .slice x3 x4 x5, .slice x6 x7 x8] (deep + 1) (rightD n (deep + 1)) wo) := HIH.out i n [.int .i64 x0, .int .i64 x1, .string x2, .slice x3 x4 x5, .slice x6 x7 x8] wo (deep + 1) hni hnd (by omega) (by have := HD.out; omega) (by have := HD.out; omega)
      have i0 : deep + 1 ≤ 25 := by have := HD.out; omega
      have i1 : 0 ≤ deep := HD.out.1
      clear hni hnd hkeep
      generalize rightD n (deep + 1) = b at *
      go_wp2_with fail
      refine (HC.out : Calls _ _ _ _ _).mono ?_; rintro e w2 ⟨rfl, hw2⟩
      have hW2 := hW.out.trans (hw2.mono (by omega))
      cases b with
      | false =>
        have HE : Hid (V = false) := by show _ = _; rw [hv.out, HST.out]; rfl
        go_wp2_with fail
        go_ret
        exact ⟨by rw [HE.out]; rfl, hW2⟩
      | true =>
        have HE : Hid (V = (rightLD (ns.drop (i + 1)) (deep + 1) && keysB ks)) := by show _ = _; rw [hv.out, HST.out]; rfl
        have hx2 : Hid (Blk w2 w.heap.size 25 #[.int .i64 7, .int .i64 0, .string t, .slice A ks.length ck, .slice (some ad) ns.length cc]) := hx.out.below hw2 (by omega)
        have hz2 : w.heap.size < w2.heap.size := by have := hw2.size; omega
        have HW2 := Lib.hid hW2
        clear hW2
        go_wp2_with fail
        go_roundw
        case rel => exact ⟨i + 1, by omega, by go_num, HE, hx2, HW2, hz2⟩
        case measure => simp [intOf]; omega
    · have HE : Hid (V = keysB ks) := by
        show _ = _
        rw [hv.out, List.drop_eq_nil_of_le (show ns.length ≤ i by omega), rightLD_nil]; rfl
      go_wp2_with fail
      clear c3 c4
      go_loopw [6] (fun t6 wr => ∃ i : Nat, i ≤ ks.length ∧ t6 = .int .i64 i ∧ Hid ((ks.take i).Nodup ∧ ∀ s ∈ ks.take i, validB s.toList = true) ∧ Hid (Blk wr w.heap.size 25 #[.int .i64 7, .int .i64 0, .string t, .slice A ks.length ck, .slice A2 ns.length cc]) ∧ Hid (Below w.heap.size w wr) ∧ w.heap.size < wr.heap.size) (fun t6 _ => ks.length - (intOf t6).toNat)
      case atStart => exact ⟨0, by omega, rfl, by constructor <;> simp, hx, hW, hz⟩
      case round =>
        clear hx hW hz
        obtain ⟨i, hi, rfl, hgd, hx, hW, hz⟩ := hrel
        obtain ⟨wo, rfl⟩ : ∃ wo : World, wo = wr := ⟨_, rfl⟩
        have c3 : wo.cell? ⟨w.heap.size, 3, none⟩ = some (.slice A ks.length ck) := hx.out.cell 3
        by_cases hlt : i < ks.length
        · obtain ⟨ad, s, rfl, hadb, hks, hc⟩ := (HKS.out.keep fun p hp => hW.out.cell (by omega)).str hlt
          have hss := HSZ.out s (List.mem_of_getElem? hks)
          have HVS : Hid (∀ w' : World, Calls Tryd.prog 53 #[.string s] w' fun e w'' => e = .returned (.bool (validB s.toList)) ∧ Below w'.heap.size w' w'') := fun w' => rvalid_any s w' hss
          have HKI := Lib.hid hks
          clear hks
          cases hvb : validB s.toList with
          | false =>
            have HF : Hid (V = false) := by show _ = _; rw [HE.out]; exact keysB_bad HKI.out hvb
            rw [hvb] at HVS
            go_wp2_with fail
            refine (HVS.out _).mono ?_; rintro e w2 ⟨rfl, hw2⟩
            have hW2 := hW.out.trans (hw2.mono (by omega))
            go_wp2_with fail
            go_ret
            exact ⟨by rw [HF.out]; rfl, hW2⟩
          | true =>
            have HVB := Lib.hid hvb
            rw [hvb] at HVS
            clear hvb
            go_wp2_with fail
            refine (HVS.out _).mono ?_; rintro e w2 ⟨rfl, hw2⟩
            have HW2 := Lib.hid (hW.out.trans (hw2.mono (by omega)))
            have hx2 : Hid (Blk w2 w.heap.size 25 #[.int .i64 7, .int .i64 0, .string t, .slice (some ad) ks.length ck, .slice A2 ns.length cc]) := hx.out.below hw2 (by omega)
            have hz2 : w.heap.size < w2.heap.size := by have := hw2.size; omega
            clear c3 hc hx hW
            go_wp2_with fail
            go_loopw [7] (fun t7 wr => ∃ j : Nat, j ≤ i ∧ t7 = .int .i64 j ∧ Hid (∀ (m : Nat) (u : ByteArray), m < j → ks[m]? = some u → (u.toList == s.toList) = false) ∧ Hid (Blk wr w.heap.size 25 #[.int .i64 7, .int .i64 0, .string t, .slice (some ad) ks.length ck, .slice A2 ns.length cc]) ∧ Hid (Below w.heap.size w wr) ∧ w.heap.size < wr.heap.size) (fun t7 _ => i - (intOf t7).toNat)
            case atStart => exact ⟨0, by omega, rfl, fun m u hm => by omega, hx2, HW2, hz2⟩
            case round =>
              clear hx2 HW2 hz2 hw2
              obtain ⟨j, hj, rfl, hne, hx, hW, hz⟩ := hrel
              obtain ⟨wi, rfl⟩ : ∃ wi : World, wi = wr := ⟨_, rfl⟩
              have c3 : wi.cell? ⟨w.heap.size, 3, none⟩ = some (.slice (some ad) ks.length ck) := hx.out.cell 3
              by_cases hjt : j < i
              · obtain ⟨ad', u, ea, hadb', hku, hcu⟩ := (HKS.out.keep fun p hp => hW.out.cell (by omega)).str (show j < ks.length by omega)
                obtain ⟨ad2, s2, ea2, hadb2, hks2, hc2⟩ := (HKS.out.keep fun p hp => hW.out.cell (by omega)).str hlt
                injection ea with ea; subst ea
                injection ea2 with ea2; subst ea2
                rw [HKI.out] at hks2
                injection hks2 with hs2; subst hs2
                have HKU := Lib.hid hku
                have j0 : (j : Int) < (ks.length : Int) := by omega
                have j1 : (i : Int) < (ks.length : Int) := by omega
                clear hku
                cases hq : (u.toList == s.toList) with
                | true =>
                  have HF : Hid (V = false) := by
                    show _ = _
                    rw [HE.out]
                    have e : u = s := by have := eq_of_beq hq; rw [ByteArray.toList_eq, ByteArray.toList_eq] at this; cases u; cases s; simp at this; rw [this]
                    exact keysB_twice HKI.out (e ▸ take_in hjt HKU.out)
                  go_wp2_with fail
                  go_quiet (fail)
                  go_wp2_with fail
                  go_ret
                  exact ⟨by rw [HF.out]; rfl, below_drewN hW.out _⟩
                | false =>
                  have hne2 : Hid (∀ (m : Nat) (u : ByteArray), m < j + 1 → ks[m]? = some u → (u.toList == s.toList) = false) := fun m u' hm hu => by
                    by_cases e : m = j
                    · subst e; rw [HKU.out] at hu; injection hu with e2; subst e2; exact hq
                    · exact hne.out m u' (by omega) hu
                  go_wp2_with fail
                  go_quiet (fail)
                  go_wp2_with fail
                  go_roundw
                  case rel => exact ⟨j + 1, by omega, by go_num, hne2, hx.out.drewN _, below_drewN hW.out _, hz⟩
                  case measure => simp [intOf]; omega
              · have hji : j = i := by omega
                have hgd2 : Hid ((ks.take (i + 1)).Nodup ∧ ∀ s ∈ ks.take (i + 1), validB s.toList = true) := by
                  show _ ∧ _
                  have hm := take_ne (ks := ks) (i := i) (s := s) (fun m u hm hu => hne.out m u (by omega) hu)
                  rw [take_snoc HKI.out]
                  refine ⟨?_, ?_⟩
                  · rw [List.nodup_append]
                    refine ⟨hgd.out.1, by simp, ?_⟩
                    intro a ha b hb e
                    simp at hb
                    subst hb; subst e; exact hm ha
                  · intro u hu
                    rw [List.mem_append] at hu
                    rcases hu with hu | hu
                    · exact hgd.out.2 u hu
                    · simp at hu; subst hu; exact HVB.out
                clear c3 hji
                go_wp2_with fail
                go_roundw
                case rel => exact ⟨i + 1, by omega, by go_num, hgd2, hx, hW, hz⟩
                case measure => simp [intOf]; omega
        · have HF : Hid (V = true) := by show _ = _; rw [HE.out]; exact keysB_all (show i = ks.length by omega) hgd.out
          go_wp2_with fail
          go_ret
          exact ⟨by rw [HF.out]; rfl, hW.out⟩
end Go.Proofs.YtnbfagignbbmfaaDoor
/-! The walk of the reference's right: the induction. -/
namespace Go.Proofs.YtnbfagignbbmfaaDoor
open Go.RowKit Go.PlainAid
set_option linter.unusedVariables false
set_option linter.unusedSimpArgs false
theorem rright_any : ∀ (m : Nat) (n : Nd), n.count ≤ m → ∀ (B : Nat) (cs : List Value) (w : World) (deep : Int), NdIs w B n cs → B ≤ w.heap.size → 0 ≤ deep → deep ≤ 24 → RrightC cs.toArray deep (rightD n deep) w := by
  intro m
  induction m with
  | zero => intro n hm; have := n.count_pos; omega
  | succ m ih =>
    intro n hm B cs w deep hn hB d0 d1
    cases n with
    | mk k num t ks ns =>
      unfold NdIs at hn
      obtain ⟨A, ck, A2, cc, xs, rfl, hks, hxs, hns, ik, inn, ht, hkl, hk, hmm⟩ := hn
      unfold maxLen at *
      have HIH : Hid (RrightHyp B ns) := by
        intro i n cs w' deep h1 h2 h3 h4 h5
        refine ih n ?_ B cs w' deep h2 h3 h4 h5
        have := Nd.counts_get ns i n h1
        simp only [Nd.count] at hm; omega
      by_cases h1 : k = 1 ∨ k = 2 ∨ k = 3
      · exact rright_const k num t ks ns A A2 ck cc xs w B deep hks hxs hns ht hkl hk hmm hB d0 d1 HIH h1
      by_cases h4 : k = 4
      · exact rright_num k num t ks ns A A2 ck cc xs w B deep hks hxs hns ht hkl hk hmm hB d0 d1 HIH h4
      by_cases h5 : k = 5
      · exact rright_str k num t ks ns A A2 ck cc xs w B deep hks hxs hns ht hkl hk hmm hB d0 d1 HIH h5
      by_cases h6 : k = 6
      · exact rright_arr k num t ks ns A A2 ck cc xs w B deep hks hxs hns ht hkl hk hmm hB d0 d1 HIH h6
      by_cases h7 : k = 7
      · exact rright_obj k num t ks ns A A2 ck cc xs w B deep hks hxs hns ht hkl hk hmm hB d0 d1 HIH h7
      exact rright_odd k num t ks ns A A2 ck cc xs w B deep hks hxs hns ht hkl hk hmm hB d0 d1 HIH (by omega)
/-- the reference's Right -/
theorem rRight_any (n : Nd) (cs : List Value) (w : World) (B : Nat) (hn : NdIs w B n cs) (hB : B ≤ w.heap.size) : Calls Tryd.prog 17 #[.agg cs.toArray] w (BoolBel (rightD n 0) w) := by
  have hl := hn.len
  have hW := Below.refl w.heap.size w
  match cs, hl with
  | [v0, v1, v2, v3, v4], _ =>
    have HC : Hid (∀ w', Below w.heap.size w w' → RrightC #[v0, v1, v2, v3, v4] 0 (rightD n 0) w') := fun w' hb =>
      rright_any n.count n (Nat.le_refl _) B [v0, v1, v2, v3, v4] w' 0 (hn.below (hb.mono (by omega))) (by have := hb.size; omega) (by omega) (by omega)
    obtain ⟨x0, x1, x2, x3, x4, x5, x6, x7, x8, rfl, rfl, rfl, rfl, rfl⟩ := hn.form
    show Calls Tryd.prog 17 #[.agg #[_, _, _, _, _]] w (BoolBel _ w)
    clear hn
    generalize rightD n 0 = W at *
    go_enter Tryd.func17, Tryd.ntmps17
    go_wp2_with fail
    refine (HC.out _ (hW.alloc hW.size _)).mono ?_; rintro e w1 ⟨rfl, hw1⟩
    go_wp2_with fail
    go_ret
    exact ⟨rfl, nextA hW hw1⟩
end Go.Proofs.YtnbfagignbbmfaaDoor
/-! A value's text as a plain function, and what the writer with its limit has of it. -/
namespace Go.Proofs.YtnbfagignbbmfaaDoor
open Go.RowKit Go.PlainAid
set_option linter.unusedVariables false
set_option linter.unusedSimpArgs false
mutual
/-- a value's text -/
def putU : Nd → List UInt8
  | .mk k num t ks ns =>
    if k = 1 then [110, 117, 108, 108] else if k = 2 then [102, 97, 108, 115, 101] else if k = 3 then [116, 114, 117, 101]
    else if k = 4 then Lib.itoa num else if k = 5 then quoteU t.toList else if k = 6 then [91] ++ putL (k == 7) ks ns true ++ [93] else [123] ++ putL (k == 7) ks ns true ++ [125]
def putL : Bool → List ByteArray → List Nd → Bool → List UInt8
  | _, _, [], _ => []
  | obj, ks, n :: ns, first => (if first = true then [] else [44]) ++ (if obj = true then quoteU (ks.headD ⟨#[]⟩).toList ++ [58] else []) ++ putU n ++ putL obj ks.tail ns false
end
/-- what a writer that stops behind its limit has of a text -/
def Cutted (a full : List UInt8) : Prop := a = full ∨ (65536 < a.length ∧ a.length ≤ full.length)
theorem Cutted.app {a f : List UInt8} (h : Cutted a f) (x : List UInt8) : Cutted (a ++ x) (f ++ x) := by
  rcases h with rfl | ⟨h1, h2⟩
  · exact .inl rfl
  · exact .inr ⟨by simp; omega, by simp; omega⟩
theorem Cutted.stop {a f : List UInt8} (h : Cutted a f) (hl : 65536 < a.length) (x : List UInt8) : Cutted a (f ++ x) := by
  rcases h with rfl | ⟨h1, h2⟩
  · exact .inr ⟨hl, by simp⟩
  · exact .inr ⟨h1, by simp; omega⟩
mutual
theorem outN_cut : ∀ (n : Nd) (a f : List UInt8), Cutted a f → Cutted (outN n a) (f ++ putU n)
  | .mk k num t ks ns, a, f, h => by
    unfold outN
    by_cases hl : 65536 < a.length
    · rw [if_pos hl]; exact h.stop hl _
    rw [if_neg hl]
    unfold putU
    split
    · exact h.app _
    split
    · exact h.app _
    split
    · exact h.app _
    split
    · exact h.app _
    split
    · exact h.app _
    split
    · have := (outL_cut (k == 7) ks ns true _ _ (h.app [91])).app [93]
      simpa using this
    · have := (outL_cut (k == 7) ks ns true _ _ (h.app [123])).app [125]
      simpa using this
theorem outL_cut : ∀ (obj : Bool) (ks : List ByteArray) (ns : List Nd) (first : Bool) (a f : List UInt8), Cutted a f → Cutted (outL obj ks ns first a) (f ++ putL obj ks ns first)
  | obj, ks, [], first, a, f, h => by unfold outL putL; simpa using h
  | obj, ks, n :: ns, first, a, f, h => by
    unfold outL putL
    have h1 : Cutted ((if first = true then a else a ++ [44]) ++ (if obj = true then quoteU (ks.headD ⟨#[]⟩).toList ++ [58] else [])) ((f ++ (if first = true then [] else [44])) ++ (if obj = true then quoteU (ks.headD ⟨#[]⟩).toList ++ [58] else [])) := by
      refine Cutted.app ?_ _
      split
      · simpa using h
      · exact h.app _
    have h2 := outL_cut obj ks.tail ns false _ _ (outN_cut n _ _ h1)
    simpa using h2
end
theorem cut_len {a f : List UInt8} (h : Cutted a f) : (65536 < a.length ↔ 65536 < f.length) ∧ (¬ 65536 < f.length → a = f) := by
  rcases h with rfl | ⟨h1, h2⟩
  · exact ⟨Iff.rfl, fun _ => rfl⟩
  · exact ⟨⟨fun _ => by omega, fun _ => h1⟩, fun h => by omega⟩
theorem outN_put (n : Nd) : Cutted (outN n []) (putU n) := by
  have := outN_cut n [] [] (.inl rfl)
  simpa using this
theorem printS_eq (n : Nd) : printS n = if rightD n 0 = false then ⟨#[]⟩ else if 65536 < (putU n).length then ⟨#[]⟩ else ⟨(putU n).toArray⟩ := by
  unfold printS
  have h := cut_len (outN_put n)
  by_cases hl : 65536 < (putU n).length
  · rw [if_pos (h.1.2 hl), if_pos hl]
  · rw [if_neg (fun x => hl (h.1.1 x)), if_neg hl, h.2 hl]
theorem printE_eq (n : Nd) : printE n = if rightD n 0 = false then 1 else if 65536 < (putU n).length then 2 else 0 := by
  unfold printE
  have h := cut_len (outN_put n)
  by_cases hl : 65536 < (putU n).length
  · rw [if_pos (h.1.2 hl), if_pos hl]
  · rw [if_neg (fun x => hl (h.1.1 x)), if_neg hl]
mutual
theorem putU_le : ∀ (n : Nd), goodN n → (putU n).length ≤ gN n
  | .mk k num t ks ns, hi => by
    unfold putU gN
    unfold goodN at hi
    have hq := quoteU_le t.toList
    rw [tl_len'] at hq
    have h4 := Lib.itoa_length_le num hi.1.1 hi.1.2
    have h6 := putL_le (k == 7) ks ns true hi.2.2.2.2
    repeat' split
    all_goals first | omega | (simp only [List.length_append, List.length_cons, List.length_nil]; omega)
theorem putL_le : ∀ (obj : Bool) (ks : List ByteArray) (ns : List Nd) (first : Bool), goodL ns → (putL obj ks ns first).length ≤ gL ks ns
  | obj, ks, [], first, hi => by unfold putL gL; simp
  | obj, ks, n :: ns, first, hi => by
    unfold putL gL
    unfold goodL at hi
    have h1 := putL_le obj ks.tail ns false hi.2
    have h2 := putU_le n hi.1
    have hq := quoteU_le (ks.headD ⟨#[]⟩).toList
    rw [tl_len'] at hq
    simp only [List.length_append]
    have e1 : (if first = true then ([] : List UInt8) else [44]).length ≤ 1 := by split <;> simp
    have e2 : (if obj = true then quoteU (ks.headD ⟨#[]⟩).toList ++ [58] else []).length ≤ 3 + 6 * (ks.headD ⟨#[]⟩).size := by
      split
      · simp only [List.length_append, List.length_cons, List.length_nil]; omega
      · simp
    omega
end
theorem putL_at (obj : Bool) (ks : List ByteArray) (ns : List Nd) (i : Nat) (n : Nd) (s : ByteArray) (first : Bool) (h : ns[i]? = some n) (hs : obj = true → ks[i]? = some s) :
    putL obj (ks.drop i) (ns.drop i) first = (if first = true then [] else [44]) ++ (if obj = true then quoteU s.toList ++ [58] else []) ++ putU n ++ putL obj (ks.drop (i + 1)) (ns.drop (i + 1)) false := by
  rw [List.drop_eq_getElem_cons (List.getElem?_eq_some_iff.1 h).1, (List.getElem?_eq_some_iff.1 h).2]
  conv => lhs; unfold putL
  rw [List.tail_drop]
  congr 3
  cases obj with
  | false => rfl
  | true =>
    have hs' := hs rfl
    rw [List.drop_eq_getElem_cons (List.getElem?_eq_some_iff.1 hs').1, (List.getElem?_eq_some_iff.1 hs').2]
    rfl
theorem rightLD_get (ns : List Nd) (deep : Int) (i : Nat) (n : Nd) (h : ns[i]? = some n) (hr : rightLD ns deep = true) : rightD n deep = true := by
  unfold rightLD at hr
  rw [rightL_all, List.all_eq_true] at hr
  exact hr n (List.mem_of_getElem? h)
end Go.Proofs.YtnbfagignbbmfaaDoor
/-! What reading JSON computes: plain functions on lists of bytes. -/
namespace Go.Proofs.YtnbfagignbbmfaaDoor
open Go.RowKit Go.PlainAid
set_option linter.unusedVariables false
set_option linter.unusedSimpArgs false
def blankB (c : UInt8) : Bool := c == 32 || c == 9 || c == 10 || c == 13
def blanksL (l : List UInt8) : List UInt8 := l.dropWhile blankB
theorem blanksL_le (l : List UInt8) : (blanksL l).length ≤ l.length := (List.dropWhile_suffix _).length_le
def digB (c : UInt8) : Bool := decide (48 ≤ c.toNat ∧ c.toNat ≤ 57)
def valD (n : Int) (ds : List UInt8) : Int := ds.foldl (fun n c => n * 10 + ((c.toNat : Int) - 48)) n
def pointB (l : List UInt8) : Bool := match l with
  | [] => false
  | c :: _ => c == 46 || c == 101 || c == 69
def numTail (neg : Bool) (l : List UInt8) : Option (Int × List UInt8) :=
  if l.takeWhile digB = [] ∨ (1 < (l.takeWhile digB).length ∧ l.head? = some 48) ∨ 9007199254740991 < valD 0 (l.takeWhile digB) ∨ (neg = true ∧ valD 0 (l.takeWhile digB) = 0) ∨ pointB (l.dropWhile digB) = true then none
  else some (if neg = true then - valD 0 (l.takeWhile digB) else valD 0 (l.takeWhile digB), l.dropWhile digB)
def numL (l : List UInt8) : Option (Int × List UInt8) := if l.head? = some 45 then numTail true l.tail else numTail false l
def hexD (c : UInt8) : Option Int :=
  if 48 ≤ c.toNat ∧ c.toNat ≤ 57 then some ((c.toNat : Int) - 48) else if 97 ≤ c.toNat ∧ c.toNat ≤ 102 then some ((c.toNat : Int) - 87) else if 65 ≤ c.toNat ∧ c.toNat ≤ 70 then some ((c.toNat : Int) - 55) else none
def unitL : Nat → Int → List UInt8 → Option (Int × List UInt8)
  | 0, n, l => some (n, l)
  | _ + 1, _, [] => none
  | k + 1, n, c :: l => match hexD c with
    | none => none
    | some h => unitL k (n * 16 + h) l
def pointL (l : List UInt8) : Option (Int × List UInt8) :=
  match unitL 4 0 l with
  | none => none
  | some (n, r) => if n < 55296 ∨ 57343 < n then some (n, r) else if 56320 ≤ n then none else if r.take 2 = [92, 117] then
      (match unitL 4 0 (r.drop 2) with
      | none => none
      | some (low, r2) => if low < 56320 ∨ 57343 < low then none else some (65536 + (n % 1024) * 1024 + low % 1024, r2))
    else none
def escL (l : List UInt8) : Option (List UInt8 × List UInt8) :=
  match l with
  | [] => none
  | c :: r => if c = 34 ∨ c = 92 ∨ c = 47 then some ([c], r) else if c = 98 then some ([8], r) else if c = 102 then some ([12], r) else if c = 110 then some ([10], r) else if c = 114 then some ([13], r) else if c = 116 then some ([9], r)
    else if c = 117 then (match pointL r with
      | none => none
      | some (n, r2) => some (putB n, r2))
    else none
set_option maxRecDepth 20000 in
/-- a text behind its opening sign -/
def textT (l acc : List UInt8) : Option (List UInt8 × List UInt8) :=
  match l with
  | [] => none
  | c :: r => if c < 32 then none else if c = 34 then some (acc, r) else if c = 92 then (match escL r with
      | none => none
      | some (b, r2) => if r2.length ≤ r.length then textT r2 (acc ++ b) else none)
    else match decL (c :: r) with
      | none => none
      | some (_, m) => if 0 < m then textT ((c :: r).drop m) (acc ++ (c :: r).take m) else none
termination_by l.length
decreasing_by
  · simp only [List.length_cons]; omega
  · simp only [List.length_drop, List.length_cons]; omega
def textL (l : List UInt8) : Option (List UInt8 × List UInt8) := if l.head? = some 34 then textT l.tail [] else none
def nd0 (k : Int) : Nd := .mk k 0 ⟨#[]⟩ [] []
mutual
/-- a value within so many others -/
def valL (deep : Nat) (l : List UInt8) : Except Int (Nd × List UInt8) :=
  if (l.head? = some 91 ∨ l.head? = some 123) ∧ 24 ≤ deep then .error 4
  else if l.head? = some 91 then
    (if (blanksL l.tail).head? = some 93 then .ok (.mk 6 0 ⟨#[]⟩ [] [], (blanksL l.tail).tail) else if (blanksL l.tail).length < l.length then arrL deep (blanksL l.tail) [] else .error 3)
  else if l.head? = some 123 then
    (if (blanksL l.tail).head? = some 125 then .ok (.mk 7 0 ⟨#[]⟩ [] [], (blanksL l.tail).tail) else if (blanksL l.tail).length < l.length then objL deep (blanksL l.tail) [] [] else .error 3)
  else if l.head? = some 34 then
    (match textL l with
    | none => .error 3
    | some (t, r) => .ok (.mk 5 0 ⟨t.toArray⟩ [] [], r))
  else if l.take 4 = [110, 117, 108, 108] then .ok (nd0 1, l.drop 4)
  else if l.take 5 = [102, 97, 108, 115, 101] then .ok (nd0 2, l.drop 5)
  else if l.take 4 = [116, 114, 117, 101] then .ok (nd0 3, l.drop 4)
  else match numL l with
    | none => .error 3
    | some (n, r) => .ok (.mk 4 n ⟨#[]⟩ [] [], r)
termination_by 2 * l.length
decreasing_by all_goals omega
/-- the kids of an array, from one on -/
def arrL (deep : Nat) (l : List UInt8) (ns : List Nd) : Except Int (Nd × List UInt8) :=
  match valL (deep + 1) (blanksL l) with
  | .error e => .error e
  | .ok (n, r) => if (blanksL r).head? = some 93 then .ok (.mk 6 0 ⟨#[]⟩ [] (ns ++ [n]), (blanksL r).tail)
    else if (blanksL r).head? = some 44 then (if (blanksL r).tail.length < l.length then arrL deep (blanksL r).tail (ns ++ [n]) else .error 3)
    else .error 3
termination_by 2 * l.length + 1
decreasing_by
  · have := blanksL_le l; omega
  · omega
/-- the kids of an object, from a key on -/
def objL (deep : Nat) (l : List UInt8) (ks : List ByteArray) (ns : List Nd) : Except Int (Nd × List UInt8) :=
  match textL (blanksL l) with
  | none => .error 3
  | some (k, r) => if ks.any (fun s => s.toList == k) = true then .error 5
    else if (blanksL r).head? = some 58 then (if (blanksL (blanksL r).tail).length < l.length then
      (match valL (deep + 1) (blanksL (blanksL r).tail) with
      | .error e => .error e
      | .ok (n, r2) => if (blanksL r2).head? = some 125 then .ok (.mk 7 0 ⟨#[]⟩ (ks ++ [⟨k.toArray⟩]) (ns ++ [n]), (blanksL r2).tail)
        else if (blanksL r2).head? = some 44 then (if (blanksL r2).tail.length < l.length then objL deep (blanksL r2).tail (ks ++ [⟨k.toArray⟩]) (ns ++ [n]) else .error 3)
        else .error 3)
      else .error 3)
    else .error 3
termination_by 2 * l.length + 1
decreasing_by all_goals omega
end
def parseL (l : List UInt8) : Except Int Nd :=
  if 65536 < l.length then .error 2 else match valL 0 (blanksL l) with
  | .error e => .error e
  | .ok (n, r) => if blanksL r = [] then .ok n else .error 3
/-! what is left is a rest -/
theorem blanksL_suf (l : List UInt8) : blanksL l <:+ l := List.dropWhile_suffix _
theorem numTail_le {b : Bool} {l : List UInt8} {n : Int} {r : List UInt8} (h : numTail b l = some (n, r)) : r <:+ l ∧ r.length < l.length := by
  unfold numTail at h
  split at h
  · cases h
  · rename_i hn
    simp only [Option.some.injEq, Prod.mk.injEq] at h
    obtain ⟨_, rfl⟩ := h
    have h0 : l.takeWhile digB ≠ [] := fun e => hn (.inl e)
    have h1 : l.takeWhile digB ++ l.dropWhile digB = l := List.takeWhile_append_dropWhile
    have h2 := congrArg List.length h1
    rw [List.length_append] at h2
    have h3 : 0 < (l.takeWhile digB).length := List.length_pos_iff.2 h0
    exact ⟨List.dropWhile_suffix _, by omega⟩
theorem numL_le {l : List UInt8} {n : Int} {r : List UInt8} (h : numL l = some (n, r)) : r <:+ l ∧ r.length < l.length := by
  unfold numL at h
  split at h
  · have := numTail_le h
    cases l with
    | nil => simp at *
    | cons c l => exact ⟨this.1.trans (List.suffix_cons _ _), by have := this.2; simp at *; omega⟩
  · exact numTail_le h
theorem unitL_le : ∀ (k : Nat) (n : Int) (l : List UInt8) (m : Int) (r : List UInt8), unitL k n l = some (m, r) → r <:+ l ∧ r.length + k = l.length
  | 0, n, l, m, r, h => by
    unfold unitL at h; simp at h; obtain ⟨_, rfl⟩ := h; exact ⟨List.suffix_refl _, rfl⟩
  | k + 1, n, [], m, r, h => by unfold unitL at h; cases h
  | k + 1, n, c :: l, m, r, h => by
    unfold unitL at h
    split at h
    · cases h
    · have := unitL_le k _ l m r h
      exact ⟨this.1.trans (List.suffix_cons _ _), by simp; omega⟩
theorem hexD_bd {c : UInt8} {h : Int} (e : hexD c = some h) : 0 ≤ h ∧ h < 16 := by
  unfold hexD at e
  split at e
  · cases e; omega
  · split at e
    · cases e; omega
    · split at e
      · cases e; omega
      · cases e
theorem unitL_bd : ∀ (k : Nat) (n : Int) (l : List UInt8) (m : Int) (r : List UInt8), 0 ≤ n → unitL k n l = some (m, r) → 0 ≤ m ∧ m < (n + 1) * 16 ^ k
  | 0, n, l, m, r, h0, h => by unfold unitL at h; simp at h; obtain ⟨rfl, _⟩ := h; simp; omega
  | k + 1, n, [], m, r, h0, h => by unfold unitL at h; cases h
  | k + 1, n, c :: l, m, r, h0, h => by
    unfold unitL at h
    split at h
    · cases h
    · rename_i x hx
      have hb := hexD_bd hx
      have := unitL_bd k (n * 16 + x) l m r (by omega) h
      refine ⟨this.1, Int.lt_of_lt_of_le this.2 ?_⟩
      rw [Int.pow_succ, Int.mul_comm (16 ^ k) 16, ← Int.mul_assoc]
      exact Int.mul_le_mul_of_nonneg_right (by omega) (Int.pow_nonneg (by omega))
theorem pointL_le {l : List UInt8} {n : Int} {r : List UInt8} (h : pointL l = some (n, r)) : r <:+ l ∧ r.length < l.length := by
  unfold pointL at h
  split at h
  · cases h
  · rename_i n1 r1 h1
    have k1 := unitL_le _ _ _ _ _ h1
    split at h
    · simp at h; obtain ⟨_, rfl⟩ := h; exact ⟨k1.1, by omega⟩
    · split at h
      · cases h
      · split at h
        · split at h
          · cases h
          · rename_i n2 r2 h2
            have k2 := unitL_le _ _ _ _ _ h2
            split at h
            · cases h
            · simp at h
              obtain ⟨_, rfl⟩ := h
              have := List.length_drop (l := r1) (i := 2)
              exact ⟨(k2.1.trans (List.drop_suffix _ _)).trans k1.1, by omega⟩
        · cases h
theorem escL_le {l b r : List UInt8} (h : escL l = some (b, r)) : r <:+ l ∧ r.length < l.length := by
  unfold escL at h
  cases l with
  | nil => simp at h
  | cons c l =>
    have hs : l <:+ c :: l ∧ l.length < (c :: l).length := ⟨List.suffix_cons _ _, by simp⟩
    simp only at h
    split at h
    · cases h; exact hs
    split at h
    · cases h; exact hs
    split at h
    · cases h; exact hs
    split at h
    · cases h; exact hs
    split at h
    · cases h; exact hs
    split at h
    · cases h; exact hs
    split at h
    · split at h
      · cases h
      · rename_i n r2 h2
        cases h
        have := pointL_le h2
        exact ⟨this.1.trans hs.1, by have := this.2; simp; omega⟩
    · cases h
theorem textT_nil (acc : List UInt8) : textT [] acc = none := by rw [textT]
theorem textT_cons (c : UInt8) (r acc : List UInt8) : textT (c :: r) acc =
    if c < 32 then none else if c = 34 then some (acc, r) else if c = 92 then (match escL r with
      | none => none
      | some (b, r2) => textT r2 (acc ++ b))
    else match decL (c :: r) with
      | none => none
      | some (_, m) => textT ((c :: r).drop m) (acc ++ (c :: r).take m) := by
  conv => lhs; rw [textT]
  split
  · rfl
  split
  · rfl
  split
  · cases he : escL r with
    | none => rfl
    | some p =>
      obtain ⟨b, r2⟩ := p
      have := (escL_le he).2
      simp only
      rw [if_pos (by omega)]
  · cases he : decL (c :: r) with
    | none => rfl
    | some p =>
      obtain ⟨x, m⟩ := p
      have := (dec_le _ _ _ he).1
      simp only
      rw [if_pos this]
theorem textT_le : ∀ (k : Nat) (l acc b r : List UInt8), l.length ≤ k → textT l acc = some (b, r) → r <:+ l ∧ r.length < l.length
  | 0, l, acc, b, r, hk, h => by
    have : l = [] := List.eq_nil_of_length_eq_zero (by omega)
    subst this
    rw [textT_nil] at h; cases h
  | k + 1, [], acc, b, r, hk, h => by rw [textT_nil] at h; cases h
  | k + 1, c :: l, acc, b, r, hk, h => by
    rw [textT_cons] at h
    have hs : l <:+ c :: l ∧ l.length < (c :: l).length := ⟨List.suffix_cons _ _, by simp⟩
    simp only [List.length_cons] at hk
    split at h
    · cases h
    split at h
    · cases h; exact hs
    split at h
    · split at h
      · cases h
      · rename_i b2 r2 h2
        have k2 := escL_le h2
        have k3 := textT_le k _ _ _ _ (by omega) h
        exact ⟨(k3.1.trans k2.1).trans hs.1, by simp; omega⟩
    · split at h
      · cases h
      · rename_i x m h2
        have k2 := dec_le _ _ _ h2
        have hd := List.length_drop (l := c :: l) (i := m)
        simp only [List.length_cons] at hd k2
        have k3 := textT_le k _ _ _ _ (by omega) h
        exact ⟨k3.1.trans (List.drop_suffix _ _), by simp only [List.length_cons]; omega⟩
theorem textL_le {l b r : List UInt8} (h : textL l = some (b, r)) : r <:+ l ∧ r.length < l.length := by
  unfold textL at h
  split at h
  · have := textT_le _ _ _ _ _ (Nat.le_refl _) h
    cases l with
    | nil => simp at *
    | cons c l => exact ⟨this.1.trans (List.suffix_cons _ _), by have := this.2; simp at *; omega⟩
  · cases h
end Go.Proofs.YtnbfagignbbmfaaDoor
/-! Sizes of a value that is not great. -/
namespace Go.Proofs.YtnbfagignbbmfaaDoor
open Go.RowKit Go.PlainAid
set_option linter.unusedVariables false
set_option linter.unusedSimpArgs false
theorem nd0_is (k : Int) (hk : I64 k) (w : World) (B : Nat) : NdIs w B (nd0 k) [.int .i64 k, .int .i64 0, .string ⟨#[]⟩, .slice none 0 0, .slice none 0 0] := by
  unfold nd0 NdIs
  exact ⟨none, 0, none, 0, [], rfl, Reads.none_, Reads.none_, (by unfold NdsIs; rfl), hk, by unfold I64; omega, by (show (0 : Nat) ≤ maxLen); exact Nat.zero_le _, by simp, by simp [maxLen], by simp [maxLen]⟩
theorem Blk.cells5 {w : World} {g : Nat} {t : TypeId} {a b c d e : Value} (h : Blk w g t #[a, b, c, d, e]) : w.cell? ⟨g, 0, none⟩ = some a ∧ w.cell? ⟨g, 1, none⟩ = some b ∧ w.cell? ⟨g, 2, none⟩ = some c ∧ w.cell? ⟨g, 3, none⟩ = some d ∧ w.cell? ⟨g, 4, none⟩ = some e :=
  ⟨h.cell 0, h.cell 1, h.cell 2, h.cell 3, h.cell 4⟩
mutual
/-- numbers that an int64 holds, texts of no great size, at every depth -/
def sizeOk : Nd → Prop
  | .mk k num t ks ns => (-9223372036854775808 ≤ num ∧ num ≤ 9223372036854775807) ∧ t.size ≤ 1000000000 ∧ (∀ s ∈ ks, s.size ≤ 1000000000) ∧ (ks.length ≤ 1000000 ∧ ns.length ≤ 1000000) ∧ sizeOkL ns
def sizeOkL : List Nd → Prop
  | [] => True
  | n :: ns => sizeOk n ∧ sizeOkL ns
end
mutual
theorem good_of : ∀ (n : Nd) (deep : Int), sizeOk n → rightD n deep = true → goodN n
  | .mk k num t ks ns, deep, h, hr => by
    unfold sizeOk at h
    obtain ⟨h1, h2, h3, _, h4⟩ := h
    unfold goodN
    rw [rightD_eq, Bool.and_eq_true] at hr
    obtain ⟨hb, hr⟩ := hr
    refine ⟨h1, fun hk => ?_, h2, h3, ?_⟩
    · subst hk
      simp at hr
      exact hr.1.2.1
    · by_cases h67 : k = 6 ∨ k = 7
      · refine goodL_of ns (deep + 1) h4 ?_
        simp only [Bool.or_eq_true, Bool.and_eq_true, beq_iff_eq, decide_eq_true_eq] at hr
        rcases h67 with rfl | rfl
        · simp at hr; exact hr.2
        · simp at hr; exact hr.2
      · have : ns = [] := by
          unfold bareF at hb
          simp only [Bool.and_eq_true, Bool.or_eq_true, beq_iff_eq] at hb
          have := hb.2
          rcases this with h | h
          · exact absurd h h67
          · exact List.eq_nil_of_length_eq_zero h
        subst this
        unfold goodL; trivial
theorem goodL_of : ∀ (ns : List Nd) (deep : Int), sizeOkL ns → rightLD ns deep = true → goodL ns
  | [], deep, h, hr => by unfold goodL; trivial
  | n :: ns, deep, h, hr => by
    unfold sizeOkL at h
    unfold goodL
    have h0 := rightLD_at (n :: ns) 0 n deep rfl
    rw [List.drop_zero, hr] at h0
    have h0 := (Bool.and_eq_true _ _).mp h0.symm
    exact ⟨good_of n deep h.1 h0.1, goodL_of ns deep h.2 (by simpa using h0.2)⟩
end
theorem tooLong_all {ks : List ByteArray} (h : tooLong ks = false) : ∀ s ∈ ks, s.size ≤ 2000 := by
  induction ks with
  | nil => simp
  | cons a ks ih =>
    simp only [tooLong, Bool.or_eq_false_iff, decide_eq_false_iff_not] at h
    intro s hs
    rcases List.mem_cons.1 hs with rfl | hs
    · omega
    · exact ih h.2 s hs
theorem weightL_ge : ∀ (ns : List Nd) (deep acc : Int), 0 ≤ deep → deep ≤ 41 → 0 ≤ acc → acc ≤ weightL ns deep acc
  | [], deep, acc, _, _, _ => by unfold weightL; omega
  | n :: ns, deep, acc, h0, h1, h2 => by
    unfold weightL
    split
    · have := weightN_le n deep h0 h1
      have := weightL_ge ns deep (acc + weightN n deep) h0 h1 (by omega)
      omega
    · omega
mutual
theorem gN_weight : ∀ (n : Nd) (deep : Int), 0 ≤ deep → deep ≤ 41 → weightN n deep < 3000 → (gN n : Int) ≤ 30000 * weightN n deep - 15000
  | .mk k m t ks ns, deep, h0, h1, h => by
    unfold weightN at h ⊢
    split at h
    · omega
    rename_i hn
    rw [if_neg hn]
    split at h
    · omega
    rename_i hk
    rw [if_neg hk]
    have hks := tooLong_all (ks := ks) (by simpa using hk)
    have := gL_weight ns ks (deep + 1) 1 (by omega) (by omega) (by omega) h hks
    unfold gN
    omega
theorem gL_weight : ∀ (ns : List Nd) (ks : List ByteArray) (deep acc : Int), 0 ≤ deep → deep ≤ 41 → 0 ≤ acc → weightL ns deep acc < 3000 → (∀ s ∈ ks, s.size ≤ 2000) → (gL ks ns : Int) ≤ 30000 * (weightL ns deep acc - acc)
  | [], ks, deep, acc, _, _, _, h, _ => by unfold weightL gL; omega
  | n :: ns, ks, deep, acc, h0, h1, h2, h, hk => by
    unfold weightL at h ⊢
    by_cases ha : acc < 3000
    · rw [if_pos ha] at h ⊢
      have hw := weightN_le n deep h0 h1
      have hge := weightL_ge ns deep (acc + weightN n deep) h0 h1 (by omega)
      have i1 := gN_weight n deep h0 h1 (by omega)
      have i2 := gL_weight ns ks.tail deep (acc + weightN n deep) h0 h1 (by omega) h (fun s hs => hk s (List.mem_of_mem_tail hs))
      have i3 : (ks.headD ⟨#[]⟩).size ≤ 2000 := by
        cases ks with
        | nil => exact (by decide : (0 : Nat) ≤ 2000)
        | cons a ks => exact hk a (by simp)
      unfold gL
      omega
    · rw [if_neg ha] at h; omega
end
mutual
theorem size_of_weight {w : World} {B : Nat} : ∀ (n : Nd) (cs : List Value) (deep : Int), NdIs w B n cs → 0 ≤ deep → deep ≤ 41 → weightN n deep < 3000 → sizeOk n
  | .mk k m t ks ns, cs, deep, hn, h0, h1, h => by
    unfold NdIs at hn
    obtain ⟨A, ck, A2, cc, xs, rfl, hks, hxs, hns, ik, im, ht, hkl, hk', hmm⟩ := hn
    unfold weightN at h
    split at h
    · omega
    rename_i hn
    split at h
    · omega
    rename_i hk
    have hks := tooLong_all (ks := ks) (by simpa using hk)
    unfold sizeOk
    exact ⟨im, by omega, fun s hs => by have := hks s hs; omega, ⟨by omega, by omega⟩, sizeL_of_weight ns xs (deep + 1) 1 hns (by omega) (by omega) (by omega) h⟩
theorem sizeL_of_weight {w : World} {B : Nat} : ∀ (ns : List Nd) (xs : List Value) (deep acc : Int), NdsIs w B ns xs → 0 ≤ deep → deep ≤ 41 → 0 ≤ acc → weightL ns deep acc < 3000 → sizeOkL ns
  | [], xs, deep, acc, hn, _, _, _, h => by unfold sizeOkL; trivial
  | n :: ns, xs, deep, acc, hn, h0, h1, h2, h => by
    unfold NdsIs at hn
    obtain ⟨cs, ys, rfl, hn1, hn2⟩ := hn
    unfold weightL at h
    by_cases ha : acc < 3000
    · rw [if_pos ha] at h
      have hw := weightN_le n deep h0 h1
      have hge := weightL_ge ns deep (acc + weightN n deep) h0 h1 (by omega)
      unfold sizeOkL
      exact ⟨size_of_weight n cs deep hn1 h0 h1 (by omega), sizeL_of_weight ns ys deep _ hn2 h0 h1 (by omega) h⟩
    · rw [if_neg ha] at h; omega
end
/-- a value that is not great -/
theorem not_great {w : World} {B : Nat} {n : Nd} {cs : List Value} (hn : NdIs w B n cs) (h : greatN n = false) : sizeOk n ∧ gN n ≤ 60000000 := by
  unfold greatN at h
  have h := of_decide_eq_false h
  have h1 := size_of_weight n cs 0 hn (by omega) (by omega) (by omega)
  have h2 := gN_weight n 0 (by omega) (by omega) (by omega)
  exact ⟨h1, by omega⟩
end Go.Proofs.YtnbfagignbbmfaaDoor
