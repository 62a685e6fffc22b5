/- Values in new memory: nodes whose blocks lie in a set; a slice of nodes of the call's own. -/
import Derived.Test.YtofkdeojabongaaDoorSizes
namespace Go.Proofs.YtofkdeojabongaaDoor
open Go.RowKit Go.PlainAid
set_option linter.unusedVariables false
set_option linter.unusedSimpArgs false
def RS (w : World) (S : Nat → Prop) (size : Nat) (A : Option Addr) (n : Nat) (xs : List Value) : Prop :=
  xs.length = n * size ∧ (0 < n → ∃ ad, A = some ad ∧ S ad.block ∧ ∀ j u, xs[j]? = some u → w.cell? (ad.add j) = some u)
theorem RS.keep {w w' : World} {S : Nat → Prop} {size n : Nat} {A : Option Addr} {xs : List Value} (h : RS w S size A n xs) (hk : ∀ p : Addr, S p.block → w'.cell? p = w.cell? p) : RS w' S size A n xs :=
  ⟨h.1, fun hn => by
    obtain ⟨ad, e, hb, hc⟩ := h.2 hn
    exact ⟨ad, e, hb, fun j u hu => (hk _ (by rw [block_of_add]; exact hb)).trans (hc j u hu)⟩⟩
theorem RS.mono {w : World} {S S' : Nat → Prop} {size n : Nat} {A : Option Addr} {xs : List Value} (h : RS w S size A n xs) (hs : ∀ b, S b → S' b) : RS w S' size A n xs :=
  ⟨h.1, fun hn => by
    obtain ⟨ad, e, hb, hc⟩ := h.2 hn
    exact ⟨ad, e, hs _ hb, hc⟩⟩
theorem RS.reads {w : World} {S : Nat → Prop} {size n B : Nat} {A : Option Addr} {xs : List Value} (h : RS w S size A n xs) (hs : ∀ b, S b → b < B) : Reads w B size A n xs := h.mono hs
theorem RS.none_ {w : World} {S : Nat → Prop} {size : Nat} {A : Option Addr} : RS w S size A 0 [] := ⟨by simp, fun h => absurd h (by omega)⟩
mutual
/-- these five cells are this node; what it refers to lies in blocks of a set -/
def NdIn (w : World) (S : Nat → Prop) : Nd → List Value → Prop
  | .mk k n t ks ns, cs => ∃ (A : Option Addr) (ck : Nat) (A2 : Option Addr) (c : Nat) (xs : List Value), cs = [.int .i64 k, .int .i64 n, .string t, .slice A ks.length ck, .slice A2 ns.length c] ∧
      RS w S 1 A ks.length (ks.map Value.string) ∧ RS w S 5 A2 ns.length xs ∧ NdsIn w S ns xs ∧
      I64 k ∧ I64 n ∧ t.size ≤ maxLen ∧ (∀ s ∈ ks, s.size ≤ maxLen) ∧ ks.length ≤ maxLen ∧ ns.length ≤ maxLen
def NdsIn (w : World) (S : Nat → Prop) : List Nd → List Value → Prop
  | [], xs => xs = []
  | n :: ns, xs => ∃ cs ys, xs = cs ++ ys ∧ NdIn w S n cs ∧ NdsIn w S ns ys
end
mutual
theorem NdIn.keep {w w' : World} {S S' : Nat → Prop} (hk : ∀ p : Addr, S p.block → w'.cell? p = w.cell? p) (hs : ∀ b, S b → S' b) : ∀ (n : Nd) (cs : List Value), NdIn w S n cs → NdIn w' S' n cs
  | .mk k m t ks ns, cs, h => by
    unfold NdIn at h ⊢
    obtain ⟨A, ck, A2, c, xs, h1, h2, h3, h4, h5⟩ := h
    exact ⟨A, ck, A2, c, xs, h1, (h2.keep hk).mono hs, (h3.keep hk).mono hs, NdsIn.keep hk hs ns xs h4, h5⟩
theorem NdsIn.keep {w w' : World} {S S' : Nat → Prop} (hk : ∀ p : Addr, S p.block → w'.cell? p = w.cell? p) (hs : ∀ b, S b → S' b) : ∀ (ns : List Nd) (xs : List Value), NdsIn w S ns xs → NdsIn w' S' ns xs
  | [], xs, h => by unfold NdsIn at h ⊢; exact h
  | n :: ns, xs, h => by
    unfold NdsIn at h ⊢
    obtain ⟨cs, ys, h1, h2, h3⟩ := h
    exact ⟨cs, ys, h1, NdIn.keep hk hs n cs h2, NdsIn.keep hk hs ns ys h3⟩
end
mutual
theorem NdIn.is {w : World} {S : Nat → Prop} {B : Nat} (hs : ∀ b, S b → b < B) : ∀ (n : Nd) (cs : List Value), NdIn w S n cs → NdIs w B n cs
  | .mk k m t ks ns, cs, h => by
    unfold NdIn at h
    unfold NdIs
    obtain ⟨A, ck, A2, c, xs, h1, h2, h3, h4, h5⟩ := h
    exact ⟨A, ck, A2, c, xs, h1, h2.reads hs, h3.reads hs, NdsIn.is hs ns xs h4, h5⟩
theorem NdsIn.is {w : World} {S : Nat → Prop} {B : Nat} (hs : ∀ b, S b → b < B) : ∀ (ns : List Nd) (xs : List Value), NdsIn w S ns xs → NdsIs w B ns xs
  | [], xs, h => by unfold NdsIn at h; unfold NdsIs; exact h
  | n :: ns, xs, h => by
    unfold NdsIn at h
    unfold NdsIs
    obtain ⟨cs, ys, h1, h2, h3⟩ := h
    exact ⟨cs, ys, h1, NdIn.is hs n cs h2, NdsIn.is hs ns ys h3⟩
end
mutual
theorem NdIs.in_ {w : World} {B : Nat} : ∀ (n : Nd) (cs : List Value), NdIs w B n cs → NdIn w (· < B) n cs
  | .mk k m t ks ns, cs, h => by
    unfold NdIs at h
    unfold NdIn
    obtain ⟨A, ck, A2, c, xs, h1, h2, h3, h4, h5⟩ := h
    exact ⟨A, ck, A2, c, xs, h1, h2, h3, NdsIs.in_ ns xs h4, h5⟩
theorem NdsIs.in_ {w : World} {B : Nat} : ∀ (ns : List Nd) (xs : List Value), NdsIs w B ns xs → NdsIn w (· < B) ns xs
  | [], xs, h => by unfold NdsIs at h; unfold NdsIn; exact h
  | n :: ns, xs, h => by
    unfold NdsIs at h
    unfold NdsIn
    obtain ⟨cs, ys, h1, h2, h3⟩ := h
    exact ⟨cs, ys, h1, NdIs.in_ n cs h2, NdsIs.in_ ns ys h3⟩
end
theorem NdIn.form {w : World} {S : Nat → Prop} {n : Nd} {cs : List Value} (h : NdIn w S n cs) : ∃ (k m : Int) (t : ByteArray) (A : Option Addr) (a c : Nat) (A2 : Option Addr) (b d : Nat),
    cs = [.int .i64 k, .int .i64 m, .string t, .slice A a c, .slice A2 b d] := by
  cases n
  unfold NdIn at h
  obtain ⟨A, ck, A2, c, xs, h1, _⟩ := h
  exact ⟨_, _, _, _, _, _, _, _, _, h1⟩
theorem NdsIn.app {w : World} {S : Nat → Prop} : ∀ (ns : List Nd) (xs : List Value) (n : Nd) (cs : List Value), NdsIn w S ns xs → NdIn w S n cs → NdsIn w S (ns ++ [n]) (xs ++ cs)
  | [], xs, n, cs, h, hn => by
    unfold NdsIn at h
    subst h
    show NdsIn w S (n :: []) _
    unfold NdsIn
    exact ⟨cs, [], by simp, hn, by unfold NdsIn; rfl⟩
  | m :: ns, xs, n, cs, h, hn => by
    unfold NdsIn at h
    obtain ⟨ds, ys, rfl, h2, h3⟩ := h
    show NdsIn w S (m :: (ns ++ [n])) _
    unfold NdsIn
    exact ⟨ds, ys ++ cs, by simp, h2, NdsIn.app ns ys n cs h3 hn⟩
theorem NdsIn.nil {w : World} {S : Nat → Prop} : NdsIn w S [] [] := by unfold NdsIn; rfl
theorem NdsIn.len {w : World} {S : Nat → Prop} : ∀ (ns : List Nd) (xs : List Value), NdsIn w S ns xs → xs.length = ns.length * 5
  | [], xs, h => by unfold NdsIn at h; subst h; rfl
  | n :: ns, xs, h => by
    unfold NdsIn at h
    obtain ⟨cs, ys, rfl, h2, h3⟩ := h
    obtain ⟨_, _, _, _, _, _, _, _, _, rfl⟩ := h2.form
    have := NdsIn.len ns ys h3
    simp; omega
theorem nodeInfo : (Tryd.prog.info? 25).map (fun i => (i.zero, i.size, i.bytes)) = some (some (.agg #[.int .i64 0, .int .i64 0, .string ⟨#[]⟩, .slice none 0 0, .slice none 0 0]), 5, 80) := by kernel_rfl
/-- blocks from h on that are not a slice's own -/
def SK (h : Nat) (w : World) (v : Value) (b : Nat) : Prop := h ≤ b ∧ b < w.heap.size ∧ v.ownBlock ≠ some b
theorem own_lt {w : World} {base size n : Nat} {e : TypeId} {v : Value} {xs : List Value} (h : w.ownsRow base e size v n xs) {g : Nat} (hg : v.ownBlock = some g) : base ≤ g ∧ g < w.heap.size := World.ownsRow.lt h g hg
/-- a node that stands in the newest block, appended to nodes of the call's own -/
theorem wpList_pushNd (w : World) {ops : Array Oper} {rest : List Oper} {o : Oper} {a : Act} {Q : Exit → Act → World → Prop} (hgd : o.guard = none) (s x : Operand)
    (ho : o.op = .call { callee := .builtin .append, args := #[s, x], argTypes := #[23, 23] })
    (B : Nat) (v : Value) (n : Nat) (xs : List Value) (hs : a.eval s = v) (hown : w.ownsRow B 25 5 v n xs) (c0 c1 : Int) (c2 : ByteArray) (c3 : Option Addr) (c4 c5 : Nat) (c6 : Option Addr) (c7 c8 : Nat)
    (hx : a.eval x = .slice (some ⟨w.heap.size, 0, none⟩) 1 1)
    (hlim : n + 1 ≤ 1000000000000) (hB : B ≤ w.heap.size)
    (h : ∀ v' w', w'.ownsRow B 25 5 v' (n + 1) (xs ++ [.int .i64 c0, .int .i64 c1, .string c2, .slice c3 c4 c5, .slice c6 c7 c8]) → w.grownBy w' v.ownBlock → (v'.ownBlock = v.ownBlock ∨ ∃ g, v'.ownBlock = some g ∧ w.heap.size ≤ g) → wpList Tryd.prog ops Q rest (a.put o.dst v') w') :
    wpList Tryd.prog ops Q (o :: rest) a (w.alloc (.cells #[.int .i64 c0, .int .i64 c1, .string c2, .slice c3 c4 c5, .slice c6 c7 c8] 25)) := by
  obtain ⟨i0, hi0, hz0, hz1, hz2⟩ := info_parts nodeInfo
  have hr : Reads (w.alloc (.cells #[.int .i64 c0, .int .i64 c1, .string c2, .slice c3 c4 c5, .slice c6 c7 c8] 25)) (w.heap.size + 1) 5 (some ⟨w.heap.size, 0, none⟩) 1 [.int .i64 c0, .int .i64 c1, .string c2, .slice c3 c4 c5, .slice c6 c7 c8] := by
    refine ⟨rfl, fun _ => ⟨_, rfl, by simp, fun j u hj => ?_⟩⟩
    have e : (⟨w.heap.size, 0, none⟩ : Addr).add j = ⟨w.heap.size, j, none⟩ := by unfold Addr.add; split <;> simp_all
    rw [e, World.cell?_alloc_mark]
    simpa using hj
  refine wpList_plain hgd fun K hK => ?_
  obtain ⟨v', w', h1, h2, h3, h4⟩ := run_append_any (P := Tryd.prog) _ B 23 o.type 25 i0 _ 5 80 Tryd.underlying23 hi0 hz0 hz1 hz2 rfl (by omega) v n _ (World.ownsRow.alloc hown _) (w.heap.size + 1) _ 1 1 _ hr
    (fun u hu => by simp at hu; rcases hu with rfl | rfl | rfl | rfl | rfl <;> rfl) (by simp only [maxLen]; omega) (by omega) (by simp; omega)
  unfold Oper.wp execOp
  simp only [ho, resolve, invoke, builtin, Sem.run_bind, Sem.run_pure, Result.andThen_ok, List.map_toArray, List.map_cons, List.map_nil, hs, hx, h1]
  refine hK _ _ (h v' w' h2 ((World.grownBy_alloc w _ _).trans h3) ?_)
  rcases h4 with h4 | h4
  · exact .inl h4
  · exact .inr ⟨_, h4, by simp⟩
theorem own_old {w w' : World} {base size n : Nat} {e : TypeId} {v : Value} {xs : List Value} (h : w.ownsRow base e size v n xs) (k : Below w.heap.size w w') : w'.ownsRow base e size v n xs := by
  have hg : w.grownBy w' none := ⟨k.os, k.tape, k.output, k.size, fun i hi _ => k.block i hi⟩
  exact World.ownsRow.kept h hg (by cases v.ownBlock <;> simp)
theorem own_form {w : World} {base size n : Nat} {e : TypeId} {v : Value} {xs : List Value} (h : w.ownsRow base e size v n xs) : ∃ A c, v = .slice A n c := by
  rcases h.2 with ⟨rfl, hx⟩ | ⟨g, cap, cur, rfl, _⟩
  · rw [hx]; exact ⟨_, _, rfl⟩
  · exact ⟨_, _, rfl⟩
/-- a slice of the call's own has grown: what lay beside it is as it was -/
theorem push_keep {h : Nat} {w w2 w3 : World} {v v' : Value} (hb : Below w.heap.size w w2) (hg : w2.grownBy w3 v.ownBlock) : ∀ p : Addr, SK h w v p.block → w3.cell? p = w.cell? p := fun p hp =>
  (World.cell?_of_block (hg.block p.block (by have := hb.size; have := hp.2.1; omega) (fun e => hp.2.2 e.symm))).trans (hb.cell hp.2.1)
theorem push_sub {h : Nat} {w w2 w3 : World} {v v' : Value} (hb : Below w.heap.size w w2) (hg : w2.grownBy w3 v.ownBlock) (hv : v'.ownBlock = v.ownBlock ∨ ∃ g, v'.ownBlock = some g ∧ w2.heap.size ≤ g) : ∀ b, SK h w v b → SK h w3 v' b := fun b hp => by
  refine ⟨hp.1, by have := hb.size; have := hg.size; have := hp.2.1; omega, ?_⟩
  rcases hv with e | ⟨g, e, hge⟩
  · rw [e]; exact hp.2.2
  · rw [e]; intro e2; injection e2 with e2; have := hb.size; have := hp.2.1; omega
theorem push_new_keep {B : Nat} {wa w2 w3 : World} {v : Value} (hg : w2.grownBy w3 v.ownBlock) (ho : ∀ g, v.ownBlock = some g → g < wa.heap.size) : ∀ p : Addr, wa.heap.size ≤ p.block ∧ p.block < w2.heap.size → w3.cell? p = w2.cell? p := fun p hp =>
  World.cell?_of_block (hg.block p.block hp.2 (fun e => by have := ho _ e.symm; omega))
theorem push_new_sub {h : Nat} {wa w2 w3 : World} {v v' : Value} (hh : h ≤ wa.heap.size) (hg : w2.grownBy w3 v.ownBlock) (ho : ∀ g, v.ownBlock = some g → g < wa.heap.size) (hv : v'.ownBlock = v.ownBlock ∨ ∃ g, v'.ownBlock = some g ∧ w2.heap.size ≤ g) :
    ∀ b, wa.heap.size ≤ b ∧ b < w2.heap.size → SK h w3 v' b := fun b hp => by
  refine ⟨by omega, by have := hg.size; omega, ?_⟩
  rcases hv with e | ⟨g, e, hge⟩
  · rw [e]; intro e2; have := ho b e2; omega
  · rw [e]; intro e2; injection e2 with e2; omega
end Go.Proofs.YtofkdeojabongaaDoor
