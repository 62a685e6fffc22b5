/- Boxes that stand in one another: their paths. -/
import Derived.Test.YtlmelclfdafhbaaTreeB3
import Derived.Test.YtlmelclfdafhbaaShelf
import Derived.Lib.LazyBuf
namespace Go.Proofs.Ytlmelclfdafhbaa
open Go.RowKit Go.PlainAid Go.Lib Go.Sort
set_option linter.unusedVariables false
set_option linter.unusedSimpArgs false
structure MadeOk (l : List Bx) (P : Nat → ByteArray) : Prop where
  len : l.length ≤ 1000
  id : ∀ (k : Nat) (b : Bx), l[k]? = some b → b.id = (k : Int) + 1
  par : ∀ (k : Nat) (b : Bx), l[k]? = some b → b.par = 0 ∨ ∃ j : Nat, b.par = (j : Int) + 1 ∧ j < k
  top : ∀ (k : Nat) (b : Bx), l[k]? = some b → b.par = 0 → (P k).toList = b.name.toList
  sub : ∀ (k : Nat) (b : Bx) (j : Nat), l[k]? = some b → b.par = (j : Int) + 1 → (P k).toList = (P j).toList ++ 47 :: b.name.toList
  size : ∀ (k : Nat), k < l.length → (P k).size ≤ 1000000
theorem fnd_gen : ∀ (l : List Bx) (s t : Nat), (∀ j b, l[j]? = some b → b.id = ((s + j : Nat) : Int) + 1) → t < l.length → fnd l (((s + t : Nat) : Int) + 1) s = ((s + t : Nat) : Int)
  | [], s, t, h, ht => by simp at ht
  | b :: l, s, 0, h, ht => by
    have := h 0 b rfl
    unfold fnd
    rw [if_pos (by rw [this])]
    rfl
  | b :: l, s, t + 1, h, ht => by
    have h0 := h 0 b rfl
    unfold fnd
    rw [if_neg (by rw [h0]; omega)]
    have := fnd_gen l (s + 1) t (fun j b' hb => by rw [h (j + 1) b' (by simpa using hb)]; omega) (by simpa using ht)
    rw [show s + (t + 1) = s + 1 + t by omega]
    exact this
theorem fnd_made {l : List Bx} {P : Nat → ByteArray} (h : MadeOk l P) (k : Nat) (hk : k < l.length) : fnd l ((k : Int) + 1) 0 = (k : Int) := by
  have := fnd_gen l 0 k (fun j b hb => by rw [Nat.zero_add]; exact h.id j b hb) hk
  rwa [Nat.zero_add] at this
def flatS (ns : List ByteArray) : List UInt8 := ns.flatMap fun x => 47 :: x.toList
theorem tail_flat (ns : List ByteArray) : Lib.joinTail [47] (ns.map (·.data.toList)) = flatS ns := by
  unfold Lib.joinTail flatS
  rw [List.map_map, List.flatMap_def]
  congr 1
  refine List.map_congr_left fun x _ => ?_
  simp [ByteArray.toList_eq]
theorem join_flat (x : ByteArray) (ns : List ByteArray) : Lib.join ((x :: ns).map (·.data.toList)) [47] = x.toList ++ flatS ns := by
  rw [List.map_cons, Lib.join_cons, tail_flat, ByteArray.toList_eq]
theorem sizeSC (b : Nat) : ∀ (vs : List Value) (o : Nat) (w : World), (w.setCells b o vs).heap.size = w.heap.size
  | [], o, w => rfl
  | v :: vs, o, w => (sizeSC b vs (o + 1) _).trans (by simp)
theorem belowDN (B : Nat) (w : World) : ∀ q : Nat, Below B w (w.drewN q)
  | 0 => Below.refl B w
  | q + 1 => (belowDN B w q).drew
def RevOk (B g : Nat) (ns : List ByteArray) (w : World) (e : Ending) (w' : World) : Prop := e = .returned (.tuple #[]) ∧ Below B w w' ∧ w.heap.size = w'.heap.size ∧ ∀ j x, ns.reverse[j]? = some x → w'.cell? ⟨g, 0 + j, none⟩ = some (.string x)
theorem rev_own (w : World) (B : Nat) (A : Option Addr) (c : Nat) (ns : List ByteArray) (h : w.ownsRow B 9 1 (.slice A ns.length c) ns.length (ns.map Value.string)) (hpos : 0 < ns.length) (hl : ns.length ≤ 100000) :
    ∃ g, A = some ⟨g, 0, none⟩ ∧ B ≤ g ∧ g < w.heap.size ∧ ns.length ≤ c ∧ Calls Try.prog 17 #[.slice A ns.length c] w (RevOk B g ns w) := by
  rcases h.2 with ⟨h1, h2⟩ | ⟨g, cap, cur, hv, hge, hg, hnc, _, hcs, htake⟩
  · have : ns = [] := by simpa using h2
    subst this
    simp at hpos
  · injection hv with e1 e2 e3
    subst e1 e3
    have hblk : Blk w g 9 cur := hg
    have hcell : ∀ i, i < ns.length → w.cell? ⟨g, 0 + i, none⟩ = some (.string (ns.getD i ⟨#[]⟩)) := fun i hi => by
      have e : (cur.toList.take (ns.length * 1))[i]? = some (.string (ns.getD i ⟨#[]⟩)) := by rw [htake, List.getElem?_map]; simp [List.getD, hi]
      rw [List.getElem?_take, if_pos (by omega)] at e
      rw [hblk.cell]
      simpa using e
    refine ⟨g, rfl, hge, hblk.lt, by omega, ?_⟩
    refine (Try.slices_Reverse_string_cells g 0 ns.length c (fun i => ns.getD i ⟨#[]⟩) w (by omega) hcell (fun j _ => hblk.frozen _)).mono ?_
    rintro e w' ⟨rfl, q, rfl⟩
    have hs : (Lib.strsOf (fun i => ns.getD i ⟨#[]⟩) ns.length) = ns.map (·.data.toList) := by
      unfold Lib.strsOf
      refine List.ext_getElem (by simp) fun i h1 h2 => ?_
      simp at h1
      simp [List.getD, h1]
    rw [hs, ← List.map_reverse, List.map_map]
    refine ⟨rfl, below_setCells hge _ _ _ (belowDN B w q), ?_, fun j x hx => ?_⟩
    · exact (sizeSC g _ 0 (w.drewN q)).symm
    · have hj := (List.getElem?_eq_some_iff.1 hx).1
      rw [World.cell?_setCells_in g _ 0 _ (fun j hj => by
        have hj : j < ns.length := by simpa using hj
        have := hcell j hj
        show ((w.cell? ⟨g, 0 + j, none⟩).isSome = true)
        rw [this]; rfl) j (by simpa using hj)]
      rw [List.getElem_map]
      have e : ns.reverse[j] = x := by rw [List.getElem?_eq_getElem hj] at hx; injection hx
      rw [e]
      rfl
end Go.Proofs.Ytlmelclfdafhbaa
