/- The walk of the writer's node. -/
import Derived.Test.YtofkdeojabongaaDoorWkids
namespace Go.Proofs.YtofkdeojabongaaDoor
open Go.RowKit Go.PlainAid
set_option linter.unusedVariables false
set_option linter.unusedSimpArgs false
theorem Bld.old {B b : Nat} {bs : List Value} {w w' : World} (h : Bld B b bs w) (k : Below w.heap.size w w') : Bld B b bs w' := by
  have hg : w.grownBy w' none := ⟨k.os, k.tape, k.output, k.size, fun i hi _ => k.block i hi⟩
  have go : ∀ p, Lib.BuilderAtF 48 5 B b p bs w → Lib.BuilderAtF 48 5 B b p bs w' := by
    rintro p ⟨hB, v, hb, ho, hn⟩
    refine ⟨hB, v, ?_, ho.kept hg ?_, hn⟩
    · rw [← hb]; exact k.block _ (bldLt hb)
    · cases v.ownBlock with
      | none => exact .inl rfl
      | some x => exact .inr (by intro e; cases e)
  rcases h with h | h
  · exact .inl (go _ h)
  · exact .inr (go _ h)
theorem Kept.old {B b : Nat} {w w' : World} (k : Below w.heap.size w w') (hB : B ≤ w.heap.size) : Kept B b w w' :=
  ⟨k.mono hB, fun i o hi _ _ => (k.block i (bldLt hi)).trans hi⟩
theorem len_gL : ∀ (ns : List Nd) (ks : List ByteArray), 10 * ns.length ≤ gL ks ns
  | [], ks => by simp
  | n :: ns, ks => by
    unfold gL
    have := len_gL ns ks.tail
    simp only [List.length_cons]; omega
set_option maxRecDepth 100000 in
set_option maxHeartbeats 3000000 in
theorem Wnode_step (k num : Int) (t : ByteArray) (ks : List ByteArray) (ns : List Nd) (A A2 : Option Addr) (ck cc : Nat) (xs : List Value) (B b : Nat) (l : List UInt8) (w : World)
    (hks : Reads w B 1 A ks.length (ks.map Value.string)) (hxs : Reads w B 5 A2 ns.length xs) (hns : NdsIs w B ns xs) (hgd : goodN (.mk k num t ks ns))
    (HIH : Hid (NodeH B b ns)) (hb : Bld B b (Lib.byteCells l) w) (hT : TabAt B w) (hB : B ≤ w.heap.size) (hlen : l.length + gN (.mk k num t ks ns) ≤ 100000000000000) :
    Calls Tryd.prog 22 #[.pointer (some ⟨b, 0, none⟩), .agg #[.int .i64 k, .int .i64 num, .string t, .slice A ks.length ck, .slice A2 ns.length cc]] w
      fun e w' => e = .returned (.tuple #[]) ∧ Bld B b (Lib.byteCells (outN (.mk k num t ks ns) l)) w' ∧ Kept B b w w' := by
  unfold gN at hlen
  unfold goodN at hgd
  obtain ⟨hnum, hkl, hts, hsz, hgl⟩ := hgd
  have hlg := len_gL ns ks
  have K0 : Kept B b w (w.alloc (.cells #[.int .i64 k, .int .i64 num, .string t, .slice A ks.length ck, .slice A2 ns.length cc] 25)) := (Kept.refl _ _ _).alloc hB _
  have HB0 := Lib.hid (hb.alloc (.cells #[.int .i64 k, .int .i64 num, .string t, .slice A ks.length ck, .slice A2 ns.length cc] 25))
  have HT0 := Lib.hid (hT.kept K0)
  have HKS := Lib.hid (K0.reads hks)
  have HXS := Lib.hid (K0.reads hxs)
  have HNS := Lib.hid (K0.nds hns)
  have HK0 := Lib.hid K0
  have HSZ := Lib.hid hsz
  have HGL := Lib.hid hgl
  have HKL := Lib.hid hkl
  have HNM := Lib.hid hnum
  have hB0 : B ≤ (w.alloc (.cells #[.int .i64 k, .int .i64 num, .string t, .slice A ks.length ck, .slice A2 ns.length cc] 25)).heap.size := by simp; omega
  obtain ⟨V, hV⟩ : ∃ V, V = outN (.mk k num t ks ns) l := ⟨_, rfl⟩
  rw [← hV]
  have HV := Lib.hid hV
  clear hks hxs hns hsz hgl hkl hb hT hV K0 hnum
  by_cases hf : 65536 < l.length
  · have df : decide (65536 < l.length) = true := decide_eq_true hf
    have e : V = l := by rw [HV.out]; unfold outN; rw [if_pos hf]
    go_enter Tryd.func22, Tryd.ntmps22
    go_wp2_with fail
    refine (full_any B b l _ HB0.out).mono ?_; rintro e w1 ⟨rfl, hw⟩; obtain rfl : _ = w1 := hw
    go_wp2_with fail
    refine bodyPost_ret (results_none rfl _ _ _) rfl ?_
    exact ⟨rfl, by rw [e]; exact HB0.out, HK0.out⟩
  have df : decide (65536 < l.length) = false := decide_eq_false hf
  by_cases h1 : k = 1
  · subst h1
    have e : V = l ++ [110, 117, 108, 108] := by rw [HV.out]; unfold outN; rw [if_neg hf, if_pos rfl]
    go_enter Tryd.func22, Tryd.ntmps22
    go_wp2_with fail
    refine (full_any B b l _ HB0.out).mono ?_; rintro e w1 ⟨rfl, hw⟩; obtain rfl : _ = w1 := hw
    go_wp2_with fail
    refine (wstr B b l _ [110, 117, 108, 108] (by kernel_rfl) _ HB0.out (by simp; omega) hB0).mono ?_; rintro e w1 ⟨rfl, n1, k1⟩
    go_wp2_with fail
    go_end0
    exact ⟨rfl, by rw [e]; exact n1, HK0.out.trans k1⟩
  by_cases h2 : k = 2
  · subst h2
    have e : V = l ++ [102, 97, 108, 115, 101] := by rw [HV.out]; unfold outN; rw [if_neg hf, if_neg (by decide), if_pos rfl]
    go_enter Tryd.func22, Tryd.ntmps22
    go_wp2_with fail
    refine (full_any B b l _ HB0.out).mono ?_; rintro e w1 ⟨rfl, hw⟩; obtain rfl : _ = w1 := hw
    go_wp2_with fail
    refine (wstr B b l _ [102, 97, 108, 115, 101] (by kernel_rfl) _ HB0.out (by simp; omega) hB0).mono ?_; rintro e w1 ⟨rfl, n1, k1⟩
    go_wp2_with fail
    go_end0
    exact ⟨rfl, by rw [e]; exact n1, HK0.out.trans k1⟩
  by_cases h3 : k = 3
  · subst h3
    have e : V = l ++ [116, 114, 117, 101] := by rw [HV.out]; unfold outN; rw [if_neg hf, if_neg (by decide), if_neg (by decide), if_pos rfl]
    go_enter Tryd.func22, Tryd.ntmps22
    go_wp2_with fail
    refine (full_any B b l _ HB0.out).mono ?_; rintro e w1 ⟨rfl, hw⟩; obtain rfl : _ = w1 := hw
    go_wp2_with fail
    refine (wstr B b l _ [116, 114, 117, 101] (by kernel_rfl) _ HB0.out (by simp; omega) hB0).mono ?_; rintro e w1 ⟨rfl, n1, k1⟩
    go_wp2_with fail
    go_end0
    exact ⟨rfl, by rw [e]; exact n1, HK0.out.trans k1⟩
  by_cases h4 : k = 4
  · subst h4
    have e : V = l ++ Lib.itoa num := by rw [HV.out]; unfold outN; rw [if_neg hf, if_neg (by decide), if_neg (by decide), if_neg (by decide), if_pos rfl]
    have hil := Lib.itoa_length_le num HNM.out.1 HNM.out.2
    go_enter Tryd.func22, Tryd.ntmps22
    go_wp2_with fail
    refine (full_any B b l _ HB0.out).mono ?_; rintro e w1 ⟨rfl, hw⟩; obtain rfl : _ = w1 := hw
    have HQ : Hid (∀ W0 : World, TabOK W0 → Bld B b (Lib.byteCells l) W0 → B ≤ W0.heap.size → Calls Tryd.prog 37 #[.int .i64 num] W0 fun e w' => e = .returned (.string ⟨(Lib.itoa num).toArray⟩) ∧ Bld B b (Lib.byteCells l) w' ∧ Kept B b W0 w' ∧ B ≤ w'.heap.size) := by
      intro W0 q1 q2 q3
      refine (Tryd.strconv_Itoa num HNM.out.1 HNM.out.2 _ q1).mono ?_; rintro e w1 ⟨rfl, kk, os, rfl⟩
      have KO := Lib.below_grow _ W0 (Nat.le_refl _) kk os
      exact ⟨rfl, q2.old KO, Kept.old KO q3, Nat.le_trans q3 KO.size⟩
    have hBd : B ≤ (w.alloc (.cells #[.int .i64 4, .int .i64 num, .string t, .slice A ks.length ck, .slice A2 ns.length cc] 25)).drew.heap.size := hB0
    have hKd : Kept B b (w.alloc (.cells #[.int .i64 4, .int .i64 num, .string t, .slice A ks.length ck, .slice A2 ns.length cc] 25)) (w.alloc (.cells #[.int .i64 4, .int .i64 num, .string t, .slice A ks.length ck, .slice A2 ns.length cc] 25)).drew := Kept.old (Below.refl _ _).drew hB0
    go_wp2_with fail
    go_region_with (first
      | (go_at_call 37; (with_reducible first | refine (HQ.out _ HT0.out.ok HB0.out hB0).mono ?_ | refine (HQ.out _ HT0.out.ok.drew (HB0.out.old (Below.refl _ _).drew) hBd).mono ?_); rintro e w1 ⟨rfl, n0, k0, hB1⟩)
      | (go_at_call 36; refine (wstr B b l _ (Lib.itoa num) (by rw [ByteArray.toList_eq]) _ n0 (by omega) hB1).mono ?_; rintro e w2 ⟨rfl, n1, k1⟩))
    all_goals
      go_wp2_with fail
      go_end0
      exact ⟨rfl, by rw [e]; exact n1, by first | exact (HK0.out.trans k0).trans k1 | exact ((HK0.out.trans hKd).trans k0).trans k1⟩
  by_cases h5 : k = 5
  · subst h5
    have e : V = l ++ quoteU t.toList := by rw [HV.out]; unfold outN; rw [if_neg hf, if_neg (by decide), if_neg (by decide), if_neg (by decide), if_neg (by decide), if_pos rfl]
    go_enter Tryd.func22, Tryd.ntmps22
    go_wp2_with fail
    refine (full_any B b l _ HB0.out).mono ?_; rintro e w1 ⟨rfl, hw⟩; obtain rfl : _ = w1 := hw
    go_wp2_with fail
    refine (Wtext_any B b l t _ HB0.out (by omega) hts hB0).mono ?_; rintro e w1 ⟨rfl, n1, k1⟩
    go_wp2_with fail
    go_end0
    exact ⟨rfl, by rw [e]; exact n1, HK0.out.trans k1⟩
  by_cases h6 : k = 6
  · subst h6
    have e : V = outL ((6 : Int) == 7) ks ns true (l ++ [91]) ++ [93] := by rw [HV.out]; unfold outN; rw [if_neg hf, if_neg (by decide), if_neg (by decide), if_neg (by decide), if_neg (by decide), if_neg (by decide), if_pos rfl]
    go_enter Tryd.func22, Tryd.ntmps22
    go_wp2_with fail
    refine (full_any B b l _ HB0.out).mono ?_; rintro e w1 ⟨rfl, hw⟩; obtain rfl : _ = w1 := hw
    go_wp2_with fail
    refine (Wkids_any 6 num t ks ns A A2 ck cc xs B b 91 93 l _ HKS.out HXS.out HNS.out (by omega) HKL.out HSZ.out HGL.out HIH HB0.out HT0.out hB0 (by omega)).mono ?_; rintro e w1 ⟨rfl, n1, k1⟩
    go_wp2_with fail
    go_end0
    exact ⟨rfl, by rw [e]; exact n1, HK0.out.trans k1⟩
  have e : V = outL (k == 7) ks ns true (l ++ [123]) ++ [125] := by rw [HV.out]; unfold outN; rw [if_neg hf, if_neg h1, if_neg h2, if_neg h3, if_neg h4, if_neg h5, if_neg h6]
  go_enter Tryd.func22, Tryd.ntmps22
  go_wp2_with fail
  refine (full_any B b l _ HB0.out).mono ?_; rintro e w1 ⟨rfl, hw⟩; obtain rfl : _ = w1 := hw
  go_wp2_with fail
  refine (Wkids_any k num t ks ns A A2 ck cc xs B b 123 125 l _ HKS.out HXS.out HNS.out (by omega) HKL.out HSZ.out HGL.out HIH HB0.out HT0.out hB0 (by omega)).mono ?_; rintro e w1 ⟨rfl, n1, k1⟩
  go_wp2_with fail
  go_end0
  exact ⟨rfl, by rw [e]; exact n1, HK0.out.trans k1⟩
theorem Wnode_any : ∀ (m : Nat) (n : Nd), n.count ≤ m → ∀ (B b : Nat) (cs : List Value) (l : List UInt8) (w : World), NdIs w B n cs → Bld B b (Lib.byteCells l) w → TabAt B w → B ≤ w.heap.size → goodN n → l.length + gN n ≤ 100000000000000 → NodeC B b cs.toArray (outN n l) w := by
  intro m
  induction m with
  | zero => intro n hm; have := n.count_pos; omega
  | succ m ih =>
    intro n hm B b cs l w hn hb hT hB hg hl
    cases n with
    | mk k num t ks ns =>
      have h := hn
      unfold NdIs at h
      obtain ⟨A, ck, A2, cc, xs, rfl, hks, hxs, hns, _⟩ := h
      refine Wnode_step k num t ks ns A A2 ck cc xs B b l w hks hxs hns hg (Lib.hid ?_) hb hT hB hl
      intro i n hi cs l w h1 h2 h3 h4 h5 h6
      refine ih n ?_ B b cs l w h1 h2 h3 h4 h5 h6
      have := Nd.counts_get ns i n hi
      simp only [Nd.count] at hm; omega
end Go.Proofs.YtofkdeojabongaaDoor
