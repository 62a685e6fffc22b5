/- Values of JSON: as plain data, and as they lie in memory. -/
import Derived.Test.YtofkdeojabongaaDoorMem
namespace Go.Proofs.YtofkdeojabongaaDoor
open Go.RowKit
set_option linter.unusedVariables false
set_option linter.unusedSimpArgs false
inductive Nd where
  | mk (kind num : Int) (text : ByteArray) (keys : List ByteArray) (kids : List Nd)
/-- how many nodes there are -/
def Nd.count : Nd → Nat
  | .mk _ _ _ _ ns => 1 + counts ns
where counts : List Nd → Nat
  | [] => 0
  | n :: ns => n.count + counts ns
theorem Nd.count_pos (n : Nd) : 0 < n.count := by cases n; simp only [Nd.count]; omega
theorem Nd.counts_get (ns : List Nd) (i : Nat) (n : Nd) (h : ns[i]? = some n) : n.count ≤ Nd.count.counts ns := by
  induction ns generalizing i with
  | nil => simp at h
  | cons a ns ih =>
    cases i with
    | zero => simp at h; subst h; simp only [Nd.count.counts]; omega
    | succ i => have := ih i (by simpa using h); simp only [Nd.count.counts]; omega
def I64 (n : Int) : Prop := -9223372036854775808 ≤ n ∧ n ≤ 9223372036854775807
mutual
/-- these five cells are this node -/
def NdIs (w : World) (B : Nat) : Nd → List Value → Prop
  | .mk k n t ks ns, cs => ∃ (A : Option Addr) (ck : Nat) (A2 : Option Addr) (c : Nat) (xs : List Value), cs = [.int .i64 k, .int .i64 n, .string t, .slice A ks.length ck, .slice A2 ns.length c] ∧
      Reads w B 1 A ks.length (ks.map Value.string) ∧ Reads w B 5 A2 ns.length xs ∧ NdsIs w B ns xs ∧
      I64 k ∧ I64 n ∧ t.size ≤ maxLen ∧ (∀ s ∈ ks, s.size ≤ maxLen) ∧ ks.length ≤ maxLen ∧ ns.length ≤ maxLen
def NdsIs (w : World) (B : Nat) : List Nd → List Value → Prop
  | [], xs => xs = []
  | n :: ns, xs => ∃ cs ys, xs = cs ++ ys ∧ NdIs w B n cs ∧ NdsIs w B ns ys
end
mutual
theorem NdIs.keep {w w' : World} {B : Nat} (hk : ∀ p : Addr, p.block < B → w'.cell? p = w.cell? p) : ∀ (n : Nd) (cs : List Value), NdIs w B n cs → NdIs w' B n cs
  | .mk k m t ks ns, cs, h => by
    unfold NdIs at h ⊢
    obtain ⟨A, ck, A2, c, xs, h1, h2, h3, h4, h5⟩ := h
    exact ⟨A, ck, A2, c, xs, h1, h2.keep hk, h3.keep hk, NdsIs.keep hk ns xs h4, h5⟩
theorem NdsIs.keep {w w' : World} {B : Nat} (hk : ∀ p : Addr, p.block < B → w'.cell? p = w.cell? p) : ∀ (ns : List Nd) (xs : List Value), NdsIs w B ns xs → NdsIs w' B ns xs
  | [], xs, h => by unfold NdsIs at h ⊢; exact h
  | n :: ns, xs, h => by
    unfold NdsIs at h ⊢
    obtain ⟨cs, ys, h1, h2, h3⟩ := h
    exact ⟨cs, ys, h1, NdIs.keep hk n cs h2, NdsIs.keep hk ns ys h3⟩
end
mutual
theorem NdIs.more {w : World} {B B' : Nat} (hB : B ≤ B') : ∀ (n : Nd) (cs : List Value), NdIs w B n cs → NdIs w B' n cs
  | .mk k m t ks ns, cs, h => by
    unfold NdIs at h ⊢
    obtain ⟨A, ck, A2, c, xs, h1, h2, h3, h4, h5⟩ := h
    exact ⟨A, ck, A2, c, xs, h1, h2.more hB, h3.more hB, NdsIs.more hB ns xs h4, h5⟩
theorem NdsIs.more {w : World} {B B' : Nat} (hB : B ≤ B') : ∀ (ns : List Nd) (xs : List Value), NdsIs w B ns xs → NdsIs w B' ns xs
  | [], xs, h => by unfold NdsIs at h ⊢; exact h
  | n :: ns, xs, h => by
    unfold NdsIs at h ⊢
    obtain ⟨cs, ys, h1, h2, h3⟩ := h
    exact ⟨cs, ys, h1, NdIs.more hB n cs h2, NdsIs.more hB ns ys h3⟩
end
theorem NdIs.below {w w' : World} {B : Nat} {n : Nd} {cs : List Value} (h : NdIs w B n cs) (hb : Below B w w') : NdIs w' B n cs := NdIs.keep (fun p hp => hb.cell hp) n cs h
theorem NdIs.len {w : World} {B : Nat} {n : Nd} {cs : List Value} (h : NdIs w B n cs) : cs.length = 5 := by
  cases n
  unfold NdIs at h
  obtain ⟨A, ck, A2, c, xs, rfl, _⟩ := h
  rfl
/-- the i-th of nodes that lie one behind the other -/
theorem NdsIs.at_ {w : World} {B : Nat} : ∀ (ns : List Nd) (xs : List Value) (i : Nat) (n : Nd), NdsIs w B ns xs → ns[i]? = some n → ∃ cs, NdIs w B n cs ∧ ∀ j, j < 5 → xs[i * 5 + j]? = cs[j]?
  | [], xs, i, n, h, hi => by simp at hi
  | a :: ns, xs, i, n, h, hi => by
    unfold NdsIs at h
    obtain ⟨cs, ys, rfl, h2, h3⟩ := h
    have hl := h2.len
    cases i with
    | zero =>
      simp at hi; subst hi
      exact ⟨cs, h2, fun j hj => by rw [Nat.zero_mul, Nat.zero_add, List.getElem?_append_left (by omega)]⟩
    | succ i =>
      obtain ⟨cs', k1, k2⟩ := NdsIs.at_ ns ys i n h3 (by simpa using hi)
      refine ⟨cs', k1, fun j hj => ?_⟩
      rw [← k2 j hj, List.getElem?_append_right (by omega)]
      congr 1
      omega
end Go.Proofs.YtofkdeojabongaaDoor
