/- The walk of keys: whether an object's keys may be. -/
import Derived.Test.YtofkdeojabongaaDoorMapB
import Derived.StringKeys
namespace Go.Proofs.YtofkdeojabongaaDoor
open Go.RowKit Go.PlainAid
open Go.Maps (Keyed)
open Go.ChangeMaps Go.MapKept
set_option linter.unusedVariables false
set_option linter.unusedSimpArgs false
open Classical in
/-- whether keys may be: unlike ones, each valid -/
noncomputable def keysB (ks : List ByteArray) : Bool := decide (ks.Nodup ∧ ∀ s ∈ ks, validB s.toList = true)
theorem keysB_twice {ks : List ByteArray} {i : Nat} {s : ByteArray} (hs : ks[i]? = some s) (hm : s ∈ ks.take i) : keysB ks = false := by
  unfold keysB
  refine decide_eq_false fun ⟨hn, _⟩ => ?_
  rw [← List.take_append_drop i ks, List.nodup_append] at hn
  refine hn.2.2 s hm s ?_ rfl
  rw [List.drop_eq_getElem_cons (List.getElem?_eq_some_iff.1 hs).1, (List.getElem?_eq_some_iff.1 hs).2]
  exact List.mem_cons_self
theorem keysB_bad {ks : List ByteArray} {i : Nat} {s : ByteArray} (hs : ks[i]? = some s) (hm : validB s.toList = false) : keysB ks = false := by
  unfold keysB
  refine decide_eq_false fun ⟨_, h⟩ => ?_
  rw [h s (List.mem_of_getElem? hs)] at hm
  cases hm
theorem take_snoc {α : Type} {l : List α} {i : Nat} {s : α} (hs : l[i]? = some s) : l.take (i + 1) = l.take i ++ [s] := by
  rw [List.take_add_one, hs]; rfl
theorem keyLaw : Keyed Tryd.prog 9 := Maps.string_keyed Tryd.underlying9
theorem zeroBool (w : World) : (zeroValue 4).run Tryd.prog w = .ok (.bool false) w := by kernel_rfl
open Classical in
/-- a map that holds just the keys of a list -/
def Seen (l : List ByteArray) (D : DataW Nat) : Prop := ∀ s : ByteArray, D.atKey (.string s.data.toList) (.lit (.bool false)) = .lit (.bool (decide (s ∈ l)))
theorem seen_nil : Seen [] (.map []) := fun s => by simp [DataW.atKey]
theorem seen_put {l : List ByteArray} {D : DataW Nat} (h : Seen l D) (hm : Maps.IsMap D) (s : ByteArray) : Seen (l ++ [s]) (D.put (.string s.data.toList) (.lit (.bool true))) := by
  intro u
  by_cases e : u = s
  · subst e
    rw [Maps.atKey_put_same hm (by trivial)]
    simp
  · have hne : (Lit.string u.data.toList) ≠ .string s.data.toList := by
      intro h
      injection h with h
      apply e
      cases u; cases s; simp at h; rw [h]
    rw [Maps.atKey_put_other hne, h u]
    simp [e]
set_option maxRecDepth 100000 in
set_option maxHeartbeats 1000000 in
theorem keys_any (ks : List ByteArray) (A : Option Addr) (ck B : Nat) (w : World) (hks : Reads w B 1 A ks.length (ks.map Value.string)) (hsz : ∀ s ∈ ks, s.size ≤ 9223372036854775807) (hl : ks.length ≤ 9223372036854775807) (hB : B ≤ w.heap.size) :
    Calls Tryd.prog 45 #[.slice A ks.length ck] w fun e w' => e = .returned (.bool (keysB ks)) ∧ Below w.heap.size w w' := by
  have hmm := @run_makeMap Tryd.prog
  have HKS := Lib.hid hks
  have HSZ := Lib.hid hsz
  clear hks hsz
  go_enter Tryd.func45, Tryd.ntmps45
  go_wp2
  go_loopw [9] (fun t wr => ∃ (i : Nat) (D : DataW Nat), i ≤ ks.length ∧ t = .int .i64 i ∧ wr.ownsMap Tryd.prog 9 (plainElem Tryd.prog 4) w.heap.size i D ∧ Hid (Seen (ks.take i) D) ∧ Hid ((ks.take i).Nodup ∧ ∀ s ∈ ks.take i, validB s.toList = true) ∧ Below w.heap.size w wr)
    (fun t _ => ks.length - (intOf t).toNat)
  case atStart => exact ⟨0, _, Nat.zero_le _, rfl, World.ownsMap_made _ _ _ _, seen_nil, by constructor <;> simp, (Below.refl _ _).alloc (Nat.le_refl _) _⟩
  case round =>
    obtain ⟨i, D, hi, rfl, hown, hsn, hgd, hbw⟩ := hrel
    obtain ⟨wo, rfl⟩ : ∃ wo : World, wo = wr := ⟨_, rfl⟩
    by_cases hlt : i < ks.length
    · obtain ⟨ad, s, rfl, hadb, hks, hc⟩ := (HKS.out.keep fun p hp => hbw.cell (by omega)).str hlt
      have hss := HSZ.out s (List.mem_of_getElem? hks)
      have hkey : keyOf Tryd.prog 9 (.string s) = some (.string s.data.toList) := WideMaps.keyOf_string_mk Tryd.underlying9 (by unfold maxLen; omega)
      have HAT := Lib.hid (hsn.out s)
      have HS := Lib.hid hks
      clear hks
      by_cases hm : s ∈ ks.take i
      · have hv := keysB_twice HS.out hm
        go_wp2_with (first
          | (at_lookup; refine wpList_lookup_own_bool _ rfl _ _ 84 rfl 9 4 keyLaw Tryd.underlying84 Tryd.underlying4 (zeroBool _) w.heap.size i _ rfl hown _ _ rfl hkey ?_; intro c hat; obtain rfl : c = true := by (have h1 := HAT.out; rw [hat] at h1; simpa [hm] using h1))
          | fail)
        go_ret
        exact ⟨by rw [hv]; rfl, hbw⟩
      · have HV := Lib.hid (valid_any s wo (by omega))
        cases hvb : validB s.toList with
        | false =>
          have hv := keysB_bad HS.out hvb
          go_wp2_with (first
            | (at_lookup; refine wpList_lookup_own_bool _ rfl _ _ 84 rfl 9 4 keyLaw Tryd.underlying84 Tryd.underlying4 (zeroBool _) w.heap.size i _ rfl hown _ _ rfl hkey ?_; intro c hat; obtain rfl : c = false := by (have h1 := HAT.out; rw [hat] at h1; simpa [hm] using h1))
            | fail)
          refine HV.out.mono ?_; rintro e w1 ⟨rfl, hw1⟩
          rw [hvb]
          go_wp2_with fail
          go_ret
          exact ⟨by rw [hv]; rfl, hbw.trans (hw1.mono hbw.size)⟩
        | true =>
          go_wp2_with (first
            | (at_lookup; refine wpList_lookup_own_bool _ rfl _ _ 84 rfl 9 4 keyLaw Tryd.underlying84 Tryd.underlying4 (zeroBool _) w.heap.size i _ rfl hown _ _ rfl hkey ?_; intro c hat; obtain rfl : c = false := by (have h1 := HAT.out; rw [hat] at h1; simpa [hm] using h1))
            | fail)
          refine HV.out.mono ?_; rintro e w1 ⟨rfl, hw1⟩
          rw [hvb]
          have hg : wo.grownBy w1 none := ⟨hw1.os, hw1.tape, hw1.output, hw1.size, fun k hk _ => hw1.block k hk⟩
          have hown1 := hown.kept hg (by simp)
          have hb1 : Below w.heap.size w w1 := hbw.trans (hw1.mono hbw.size)
          go_wp2_with (first
            | (at_mapUpdate; refine wpList_mapUpdate_own _ rfl _ _ _ 84 rfl 9 4 keyLaw Tryd.underlying84 _ w.heap.size i _ rfl hown1 (by unfold maxLen; omega) _ _ _ rfl rfl hkey _ [] (plainElem_bool Tryd.underlying4 true) ?_; intro w2 hown2 hgrow2)
            | fail)
          go_roundw
          case rel =>
            refine ⟨i + 1, _, by omega, by go_num, hown2, ?_, ?_, hb1.grown hgrow2 hb1.size (fun j hj => by cases hj; exact Nat.le_refl _)⟩
            · rw [take_snoc HS.out]; exact seen_put hsn.out hown1.isMap s
            · rw [take_snoc HS.out]
              refine ⟨?_, ?_⟩
              · rw [List.nodup_append]
                refine ⟨hgd.out.1, by simp, ?_⟩
                intro a ha b hb e
                simp at hb
                subst hb; subst e; exact hm ha
              · intro u hu
                rw [List.mem_append] at hu
                rcases hu with hu | hu
                · exact hgd.out.2 u hu
                · simp at hu; subst hu; exact hvb
          case measure => simp [intOf]; omega
    · have hik : i = ks.length := by omega
      have hv : keysB ks = true := by
        unfold keysB
        have h := hgd.out
        rw [List.take_of_length_le (by omega)] at h
        exact decide_eq_true h
      go_wp2_with fail
      go_ret
      exact ⟨by rw [hv]; rfl, hbw⟩
end Go.Proofs.YtofkdeojabongaaDoor
