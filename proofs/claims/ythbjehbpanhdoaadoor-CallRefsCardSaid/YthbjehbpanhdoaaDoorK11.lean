/- Texts of one seat, one behind the other: NdOpen. No condition. -/
import Derived.Test.YthbjehbpanhdoaaDoorK10
import Derived.Deep.Slices
import Derived.ReadAgain
import Derived.ChangeReads
import Derived.ProofKit
import Derived.OpenShut
/-! A node that came in, opened to cells; arguments read behind the call as before. -/
namespace Go.Proofs.YthbjehbpanhdoaaDoor
open Go.RowKit
set_option linter.unusedVariables false
set_option linter.unusedSimpArgs false
theorem list_of {α : Type} : ∀ (n : Nat) (p : Nat → α → Prop), (∀ i, i < n → ∃ a, p i a) → ∃ l : List α, l.length = n ∧ ∀ i a, l[i]? = some a → p i a
  | 0, p, h => ⟨[], rfl, fun i a hi => by simp at hi⟩
  | n + 1, p, h => by
    obtain ⟨a, ha⟩ := h 0 (by omega)
    obtain ⟨l, hl, hp⟩ := list_of n (fun i => p (i + 1)) (fun i hi => h (i + 1) (by omega))
    refine ⟨a :: l, by simp [hl], fun i b hi => ?_⟩
    cases i with
    | zero => simp at hi; subst hi; exact ha
    | succ i => exact hp i b (by simpa using hi)
theorem cellsStr : Tryd.prog.cellsOf 9 = 1 := by kernel_rfl
theorem cellsInt : Tryd.prog.cellsOf 3 = 1 := by kernel_rfl
theorem cellsStrs : Tryd.prog.cellsOf 22 = 1 := by kernel_rfl
theorem cellsNodes : Tryd.prog.cellsOf 23 = 1 := by kernel_rfl
theorem cellsNode : Tryd.prog.cellsOf 25 = 5 := by kernel_rfl
theorem flat_reads {w : World} {a : Addr} : ∀ (l : List (List Value)) (k : Nat), (∀ (i : Nat) (c : List Value), l[i]? = some c → c.length = 5 ∧ ∀ r, r < 5 → w.cell? (a.add ((k + i) * 5 + r)) = c[r]?) → ∀ (j : Nat) (u : Value), l.flatten[j]? = some u → w.cell? (a.add (k * 5 + j)) = some u
  | [], k, h, j, u, hj => by simp at hj
  | c :: l, k, h, j, u, hj => by
    obtain ⟨h5, hc⟩ := h 0 c rfl
    rw [List.flatten_cons] at hj
    by_cases hlt : j < 5
    · rw [List.getElem?_append_left (by omega)] at hj
      rw [← hj, ← hc j hlt, Nat.add_zero]
    · rw [List.getElem?_append_right (by omega), h5] at hj
      have := flat_reads l (k + 1) (fun i c hi => by
        have := h (i + 1) c (by simpa using hi)
        rw [show k + 1 + i = k + (i + 1) by omega]; exact this) (j - 5) u hj
      rw [← this]
      congr 2
      omega
theorem nds_flat {w : World} {B : Nat} : ∀ (l : List (Nd × List Value)), (∀ p ∈ l, NdIs w B p.1 p.2) → NdsIs w B (l.map (·.1)) (l.map (·.2)).flatten
  | [], h => by unfold NdsIs; rfl
  | p :: l, h => by
    show NdsIs w B (p.1 :: l.map (·.1)) _
    unfold NdsIs
    exact ⟨p.2, (l.map (·.2)).flatten, rfl, h p (by simp), nds_flat l (fun q hq => h q (by simp [hq]))⟩
theorem len_flat : ∀ (l : List (List Value)), (∀ c ∈ l, c.length = 5) → l.flatten.length = l.length * 5
  | [], h => rfl
  | c :: l, h => by
    have := len_flat l (fun c hc => h c (by simp [hc]))
    rw [List.flatten_cons, List.length_append, this, h c (by simp), List.length_cons]; omega
section
variable {H : Type} {enc : TypeId × Value → H} {w : World} {sp : Nat → Bool} {held : Bool}
theorem cell_lt {a : Addr} {v : Value} (h : w.cell? a = some v) : a.block < w.heap.size := by
  rcases Nat.lt_or_ge a.block w.heap.size with h' | h'
  · exact h'
  · unfold World.cell? at h
    rw [Array.getElem?_eq_none h'] at h
    simp at h
theorem strs_of_trod {fuel : Nat} {cs : List Value} {x : DataW H × List MemPlace} (h : DataW.trod enc Tryd.prog w 0 sp held fuel 22 cs = some x) :
    ∃ (A : Option Addr) (c : Nat) (ks : List ByteArray), cs = [.slice A ks.length c] ∧ Reads w w.heap.size 1 A ks.length (ks.map Value.string) ∧ (∀ s ∈ ks, s.size ≤ maxLen) ∧ ks.length ≤ maxLen := by
  rcases Deep.open_slice Tryd.underlying22 h with ⟨rfl, rfl⟩ | ⟨a, len, cap, m, n, D, Pl, rfl, _, hl, hm, hmm, rfl, hi⟩
  · exact ⟨none, 0, [], rfl, Reads.none_, by simp, by simp [maxLen]⟩
  · have hlm : len ≤ m := by rw [hmm]; split <;> omega
    obtain ⟨ks, hk, hp⟩ := list_of len (fun i (s : ByteArray) => w.cell? (a.add i) = some (.string s) ∧ s.size ≤ maxLen) (fun i hi' => by
      obtain ⟨cs', hc, ht⟩ := hi i (by omega)
      rw [cellsStr, Nat.mul_one] at hc
      obtain ⟨s, rfl, _, hs⟩ := DataW.trod_string Tryd.underlying9 ht
      obtain ⟨_, _, hc⟩ := World.cells?_some hc
      exact ⟨s, by have := hc 0 (by omega); rw [show (a.add i).add 0 = a.add i by simp [Addr.add]] at this; exact this, hs⟩)
    subst hk
    refine ⟨some a, cap, ks, rfl, ⟨by simp, fun hn => ⟨a, rfl, ?_, fun j u hj => ?_⟩⟩, fun s hs => ?_, by omega⟩
    · have := (hp 0 ks[0] (List.getElem?_eq_getElem hn)).1
      have := cell_lt this
      rw [block_of_add] at this; exact this
    · rw [List.getElem?_map] at hj
      cases hk : ks[j]? with
      | none => rw [hk] at hj; simp at hj
      | some s => rw [hk] at hj; simp at hj; subst hj; exact (hp j s hk).1
    · obtain ⟨j, hj⟩ := List.getElem?_of_mem hs
      exact (hp j s hj).2
theorem wf_I64 {n : Int} (h : (Lit.int .i64 n).wf = true) : I64 n := bounds_i64 h
set_option maxRecDepth 100000 in
theorem nd_of_trod : ∀ (k fuel : Nat), fuel ≤ k → ∀ (cs : List Value) (x : DataW H × List MemPlace), DataW.trod enc Tryd.prog w 0 sp held fuel 25 cs = some x → ∃ n, NdIs w w.heap.size n cs := by
  intro k
  induction k with
  | zero =>
    intro fuel hf cs x h
    obtain rfl : fuel = 0 := by omega
    simp [DataW.trod] at h
  | succ k ih =>
    intro fuel hf cs x h
    obtain ⟨xs, n, rfl, rfl, hl, hxl, hfld⟩ := DataW.trod_struct Tryd.underlying25 h
    rw [cellsNode] at hl
    have h0 : DataW.trod enc Tryd.prog w 0 sp held n 3 ((cs.drop 0).take (Tryd.prog.cellsOf 3)) = xs[0]? := hfld 0 _ rfl
    have h1 : DataW.trod enc Tryd.prog w 0 sp held n 3 ((cs.drop 1).take (Tryd.prog.cellsOf 3)) = xs[1]? := hfld 1 _ rfl
    have h2 : DataW.trod enc Tryd.prog w 0 sp held n 9 ((cs.drop 2).take (Tryd.prog.cellsOf 9)) = xs[2]? := hfld 2 _ rfl
    have h3 : DataW.trod enc Tryd.prog w 0 sp held n 22 ((cs.drop 3).take (Tryd.prog.cellsOf 22)) = xs[3]? := hfld 3 _ rfl
    have h4 : DataW.trod enc Tryd.prog w 0 sp held n 23 ((cs.drop 4).take (Tryd.prog.cellsOf 23)) = xs[4]? := hfld 4 _ rfl
    rw [cellsInt] at h0 h1
    rw [cellsStr] at h2
    rw [cellsStrs] at h3
    rw [cellsNodes] at h4
    clear hfld h
    have hxl : xs.length = 5 := hxl
    match cs, hl with
    | [c0, c1, c2, c3, c4], _ =>
      match xs, hxl with
      | [y0, y1, y2, y3, y4], _ =>
        simp only [List.drop_succ_cons, List.drop_zero, List.take_succ_cons, List.take_zero, List.getElem?_cons_zero, List.getElem?_cons_succ] at h0 h1 h2 h3 h4
        obtain ⟨n0, e0, _, w0⟩ := DataW.trod_int Tryd.underlying3 h0
        obtain ⟨n1, e1, _, w1⟩ := DataW.trod_int Tryd.underlying3 h1
        obtain ⟨t, e2, _, w2⟩ := DataW.trod_string Tryd.underlying9 h2
        obtain ⟨A, ck, ks, e3, r3, s3, l3⟩ := strs_of_trod h3
        obtain rfl : c0 = .int .i64 n0 := by simpa using e0
        obtain rfl : c1 = .int .i64 n1 := by simpa using e1
        obtain rfl : c2 = .string t := by simpa using e2
        obtain rfl : c3 = .slice A ks.length ck := by simpa using e3
        rcases DataW.trod_slice Tryd.underlying23 h4 with ⟨e4, _⟩ | ⟨a, len, cap, elems, rest, n', rfl, e4, _, _, hlc, hcm, hel, hget, _, _⟩
        · obtain rfl : c4 = .slice none 0 0 := by simpa using e4
          refine ⟨.mk n0 n1 t ks [], ?_⟩
          unfold NdIs
          exact ⟨A, ck, none, 0, [], rfl, r3, Reads.none_, (by unfold NdsIs; rfl), wf_I64 w0, wf_I64 w1, w2, s3, l3, by simp [maxLen]⟩
        · obtain rfl : c4 = .slice (some a) len cap := by simpa using e4
          obtain ⟨l, hll, hp⟩ := list_of len (fun i (p : Nd × List Value) => NdIs w w.heap.size p.1 p.2 ∧ p.2.length = 5 ∧ ∀ r, r < 5 → w.cell? (a.add (i * 5 + r)) = p.2[r]?) (fun i hi => by
            have hg := hget i hi
            rw [List.getElem?_eq_getElem (by omega)] at hg
            obtain ⟨cs', g1, g2⟩ := Option.bind_eq_some_iff.1 hg
            rw [cellsNode] at g1
            obtain ⟨_, g3, g4⟩ := World.cells?_some g1
            obtain ⟨m, hm⟩ := ih n' (by omega) cs' _ g2
            exact ⟨(m, cs'), hm, g3, fun r hr => by have := g4 r hr; rw [add_of_add] at this; exact this⟩)
          subst hll
          refine ⟨.mk n0 n1 t ks (l.map (·.1)), ?_⟩
          unfold NdIs
          have hfr := flat_reads (w := w) (a := a) (l.map (·.2)) 0 (fun i c hc => by
            rw [List.getElem?_map] at hc
            cases hk : l[i]? with
            | none => rw [hk] at hc; simp at hc
            | some p => rw [hk] at hc; simp at hc; subst hc; rw [Nat.zero_add]; exact (hp i p hk).2)
          refine ⟨A, ck, some a, cap, (l.map (·.2)).flatten, (by simp), r3, ⟨?_, fun hn => ⟨a, rfl, ?_, fun j u hj => ?_⟩⟩, ?_, wf_I64 w0, wf_I64 w1, w2, s3, l3, (by simp; omega)⟩
          · rw [len_flat]
            · simp
            · intro c hc
              obtain ⟨p, hp', rfl⟩ := List.mem_map.1 hc
              obtain ⟨i, hi⟩ := List.getElem?_of_mem hp'
              exact (hp i p hi).2.1
          · simp at hn
            have hq := hp 0 l[0] (List.getElem?_eq_getElem hn)
            have h5 := hq.2.1
            have := hq.2.2 0 (by omega)
            rw [List.getElem?_eq_getElem (by omega)] at this
            have := cell_lt this
            rw [block_of_add] at this; exact this
          · have := hfr j u hj
            rw [show 0 * 5 + j = j by omega] at this; exact this
          · refine nds_flat l (fun p hp' => ?_)
            obtain ⟨i, hi⟩ := List.getElem?_of_mem hp'
            exact (hp i p hi).1
end
section
open Go.ChangeShapes Go.WideShapes
variable {H : Type} {enc : TypeId × Value → H} {W W' : World}
set_option maxRecDepth 100000 in
/-- a node that came in -/
theorem open_node {r : Reach} {b0 : Nat} {sp : Nat → Bool} {held : Bool} {v : Value} {d : DataW H} {p : List MemPlace} (hv : Value.okWide Tryd.prog W r b0 25 v) (h : DataW.Trod enc Tryd.prog W 0 sp held 25 v d p) :
    ∃ n cs, v = .agg cs.toArray ∧ NdIs W W.heap.size n cs := by
  obtain ⟨cs, rfl, _⟩ := okWide_struct Tryd.underlying25 hv
  obtain ⟨fuel, hf⟩ := h
  obtain ⟨n, hn⟩ := nd_of_trod fuel fuel (Nat.le_refl _) _ _ hf
  exact ⟨n, cs.toList, by simp, by simpa [Value.cells] using hn⟩
theorem kids : Kids Tryd.prog (· < Tryd.prog.types.size) := kids_rows (by kernel_rfl) (by kernel_rfl)
theorem full : ∀ t e, t < Tryd.prog.types.size → Tryd.prog.underlying t = some (.slice e) → 0 < Tryd.prog.cellsOf e := slices_full_of _ (by kernel_rfl)
theorem all_carry : ∀ {ts : List TypeId} {vs : List Value} {ds : List (DataW H)} {ps : List MemPlace} {sp : Nat → Bool}, DataW.TrodAll enc Tryd.prog W 0 sp true ts vs ds ps → (∀ p ∈ ps, W.sameAt W' p) → DataW.TrodAll enc Tryd.prog W' 0 sp true ts vs ds ps
  | [], [], [], _, _, h, _ => h
  | _ :: _, _ :: _, _ :: _, _, _, ⟨p, q, ⟨n, h1⟩, h2, e⟩, hs => ⟨p, q, ⟨n, DataW.trod_carry n _ _ _ h1 (fun x hx => hs x (by rw [e]; exact List.mem_append_left _ hx))⟩, all_carry h2 (fun x hx => hs x (by rw [e]; exact List.mem_append_right _ hx)), e⟩
/-- arguments read behind the call as before -/
theorem args_again {ts : List TypeId} {vs : List Value} {ds : List (DataW H)} {ps : List MemPlace} (hT : ∀ t ∈ ts, t < Tryd.prog.types.size) (h : DataW.TrodAll enc Tryd.prog W 0 (fun _ => true) true ts vs ds ps) (hlt : ∀ p ∈ ps, p.block < W.heap.size)
    (hb : Below W.heap.size W W') (sp : Nat → Bool) (hs : ∀ p ∈ ps, sp p.block = true) : DataW.TrodAll enc Tryd.prog W' 0 sp true ts vs ds ps := by
  refine all_carry (DataW.TrodAll.respare kids full hT h hs) (fun p hp => ?_)
  have := hlt p hp
  cases p with
  | cell b off => exact hb.cell this
  | map b => exact hb.block b this
end
end Go.Proofs.YthbjehbpanhdoaaDoor
