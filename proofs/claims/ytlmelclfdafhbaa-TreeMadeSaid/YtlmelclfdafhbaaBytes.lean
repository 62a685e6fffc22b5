/- Rows of bytes that the call itself makes and appends to. -/
import Derived.Test.YtlmelclfdafhbaaMem
import Derived.PlainAid
namespace Go.Proofs.Ytlmelclfdafhbaa
open Go.RowKit Go.PlainAid
set_option linter.unusedVariables false
set_option linter.unusedSimpArgs false
theorem u8Info : (Try.prog.info? 5).map (fun i => (i.zero, i.size, i.bytes)) = some (some (.int .u8 0), 1, 1) := by kernel_rfl
/-- the slice v, the call's own from block B on, holds the bytes zs -/
def OwnB (w : World) (B : Nat) (v : Value) (zs : List Int) : Prop := w.ownsRow B 5 1 v zs.length (zs.map (Value.int .u8))
theorem OwnB.nil (w : World) (B : Nat) : OwnB w B (.slice none 0 0) [] := World.ownsRow_nil w B 5 1
theorem OwnB.one (w : World) (B : Nat) (c : Int) (hB : B ≤ w.heap.size) : OwnB (w.alloc (.cells #[.int .u8 c] 5)) B (.slice (some ⟨w.heap.size, 0, none⟩) 1 1) [c] :=
  World.ownsRow_lit w #[.int .u8 c] 1 hB (by simp [maxLen]) (by simp)
theorem OwnB.alloc {w : World} {B : Nat} {v : Value} {zs : List Int} (h : OwnB w B v zs) (o : Obj) : OwnB (w.alloc o) B v zs := World.ownsRow.alloc h o
theorem OwnB.drew {w : World} {B : Nat} {v : Value} {zs : List Int} (h : OwnB w B v zs) : OwnB w.drew B v zs := h
theorem OwnB.form {w : World} {B : Nat} {v : Value} {zs : List Int} (h : OwnB w B v zs) : (∃ c, v = .slice none 0 c ∧ zs = []) ∨ ∃ g c, v = .slice (some ⟨g, 0, none⟩) zs.length c ∧ B ≤ g ∧ g < w.heap.size ∧ ∀ i, i < zs.length → w.cell? ⟨g, 0 + i, none⟩ = some (.int .u8 (zs.getD i 0)) := by
  rcases h.2 with ⟨rfl, hx⟩ | ⟨g, cap, cur, rfl, hb, hg, _⟩
  · exact .inl ⟨0, rfl, List.eq_nil_of_length_eq_zero hx⟩
  · refine .inr ⟨g, cap, rfl, hb, (Array.getElem?_eq_some_iff.1 hg).1, fun i hi => ?_⟩
    have := World.ownsRow.cells h (g := g) rfl i (.int .u8 (zs.getD i 0)) (by simp [List.getD, hi])
    have e : (⟨g, 0, none⟩ : Addr).add i = ⟨g, 0 + i, none⟩ := by unfold Addr.add; split <;> simp_all
    rw [e] at this
    exact this
theorem OwnB.conv {w : World} {B : Nat} {v : Value} {zs : List Int} (h : OwnB w B v zs) : (convert 25 9 v).run Try.prog w = .ok (.string (strOfNums zs)) w := by
  rcases h.form with ⟨c, rfl, rfl⟩ | ⟨g, c, rfl, _, _, hc⟩
  · exact run_convert_bytes_nil w 25 5 Try.underlying25 Try.underlying5 0 c 9 Try.underlying9
  · exact run_convert_bytes_arg w 25 5 Try.underlying25 Try.underlying5 g 0 zs.length c zs rfl hc 9 Try.underlying9
/-- append of several bytes that stand somewhere -/
theorem run_pushes (w : World) (B : Nat) (v : Value) (zs : List Int) (hown : OwnB w B v zs) (R : Nat) (A : Option Addr) (m c : Nat) (news : List Int) (hr : Reads w R 1 A m (news.map (Value.int .u8))) (ty : TypeId)
    (hlim : zs.length + m ≤ 1099511627776) (hB : B ≤ w.heap.size) :
    ∃ v' w', (Builtin.append_ #[25, 25] ty #[v, .slice A m c]).run Try.prog w = .ok v' w' ∧ OwnB w' B v' (zs ++ news) ∧ Below B w w' ∧ w.grownBy w' v.ownBlock := by
  obtain ⟨i0, hi0, hz0, hz1, hz2⟩ := info_parts u8Info
  obtain ⟨v', w', h1, h2, h3, _⟩ := run_append_any (P := Try.prog) w B 25 ty 5 i0 (.int .u8 0) 1 1 Try.underlying25 hi0 hz0 hz1 hz2 rfl (by omega) v zs.length _ hown R A m c (news.map (Value.int .u8)) hr
    (fun u hu => by obtain ⟨n, _, rfl⟩ := List.mem_map.1 hu; rfl) (by simp only [maxLen]; omega) (by omega) hB
  have hm : news.length = m := by have := hr.1; simpa using this
  refine ⟨v', w', h1, ?_, (Below.refl _ _).grown h3 hB (fun k hk => (World.ownsRow.lt hown k hk).1), h3⟩
  unfold OwnB
  rw [List.map_append, List.length_append, hm]
  exact h2
theorem wpList_pushes (w : World) {ops : Array Oper} {rest : List Oper} {o : Oper} {a : Act} {Q : Exit → Act → World → Prop} (hgd : o.guard = none) (s x : Operand)
    (ho : o.op = .call { callee := .builtin .append, args := #[s, x], argTypes := #[25, 25] })
    (B : Nat) (v : Value) (zs : List Int) (hs : a.eval s = v) (hown : OwnB w B v zs) (R : Nat) (A : Option Addr) (m c : Nat) (news : List Int) (hx : a.eval x = .slice A m c) (hr : Reads w R 1 A m (news.map (Value.int .u8)))
    (hlim : zs.length + m ≤ 1099511627776) (hB : B ≤ w.heap.size)
    (h : ∀ v' w', OwnB w' B v' (zs ++ news) → Below B w w' → w.grownBy w' v.ownBlock → wpList Try.prog ops Q rest (a.put o.dst v') w') : wpList Try.prog ops Q (o :: rest) a w := by
  refine wpList_plain hgd fun K hK => ?_
  obtain ⟨v', w', h1, h2, h3, h4⟩ := run_pushes w B v zs hown R A m c news hr o.type hlim hB
  unfold Oper.wp execOp
  simp only [ho, resolve, invoke, builtin, Sem.run_bind, Sem.run_pure, Result.andThen_ok, List.map_toArray, List.map_cons, List.map_nil, hs, hx, h1]
  exact hK _ _ (h v' w' h2 h3 h4)
/-- append of one byte: the new cell stands in the newest block -/
theorem reads_new (w : World) (c : Int) : Reads (w.alloc (.cells #[.int .u8 c] 5)) (w.heap.size + 1) 1 (some ⟨w.heap.size, 0, none⟩) 1 ([c].map (Value.int .u8)) := by
  refine ⟨rfl, fun _ => ⟨_, rfl, by simp, fun j u hu => ?_⟩⟩
  have hj : j = 0 := by
    have := (List.getElem?_eq_some_iff.1 hu).1
    simp at this
    exact this
  subst hj
  have e : (⟨w.heap.size, 0, none⟩ : Addr).add 0 = ⟨w.heap.size, 0, none⟩ := by simp [Addr.add]
  rw [e, World.cell?_alloc_mark]
  simpa using hu
theorem wpList_push (w : World) {ops : Array Oper} {rest : List Oper} {o : Oper} {a : Act} {Q : Exit → Act → World → Prop} (hgd : o.guard = none) (s x : Operand)
    (ho : o.op = .call { callee := .builtin .append, args := #[s, x], argTypes := #[25, 25] })
    (B : Nat) (v : Value) (zs : List Int) (hs : a.eval s = v) (hown : OwnB w B v zs) (c : Int) (hx : a.eval x = .slice (some ⟨w.heap.size, 0, none⟩) 1 1)
    (hlim : zs.length + 1 ≤ 1099511627776) (hB : B ≤ w.heap.size)
    (h : ∀ v' w', OwnB w' B v' (zs ++ [c]) → Below B w w' → wpList Try.prog ops Q rest (a.put o.dst v') w') : wpList Try.prog ops Q (o :: rest) a (w.alloc (.cells #[.int .u8 c] 5)) :=
  wpList_pushes _ hgd s x ho B v zs hs (hown.alloc _) (w.heap.size + 1) _ 1 1 [c] hx (reads_new w c) hlim (by simp; omega) fun v' w' h2 h3 _ => h v' w' h2 (((Below.refl _ _).alloc hB _).trans h3)
/-- make([]byte, 0, n) -/
theorem wpList_make_bytes (w : World) {ops : Array Oper} {rest : List Oper} {o : Oper} {a : Act} {Q : Exit → Act → World → Prop}
    (hg : o.guard = none) (l c : Operand) (hop : o.op = Op.makeSlice 25 l c) (B : Nat) (C : Int) (n : Nat) (hl : a.eval l = .int .i64 0) (hc : a.eval c = .int .i64 C) (hC : C = (n : Int)) (b2 : n ≤ 1099511627776) (b4 : B ≤ w.heap.size)
    (hK : ∀ v w', OwnB w' B v [] → Below B w w' → wpList Try.prog ops Q rest (a.put o.dst v) w') : wpList Try.prog ops Q (o :: rest) a w := by
  obtain ⟨i0, hi0, hz0, hz1, hz2⟩ := info_parts u8Info
  exact wpList_make_own w hg l c 25 hop B 5 i0 (.int .u8 0) 1 Try.underlying25 hi0 hz0 hz1 .i64 .i64 C n hl hc hC (by rw [hz2]; omega) (by simp only [maxLen]; omega) b4
    fun w' h1 h2 => hK _ w' h1 ((Below.refl _ _).grown h2 b4 (fun k hk => by cases hk))
/-- a row of bytes that is written in place -/
def RowF (w : World) (g n : Nat) (f : Nat → Int) : Prop := ∀ j, j < n → w.cell? ⟨g, j, none⟩ = some (.int .u8 (f j)) ∧ w.frozen? ⟨g, j, none⟩ = false
theorem RowF.congr {w : World} {g n : Nat} {f f' : Nat → Int} (h : RowF w g n f) (e : ∀ j, j < n → f j = f' j) : RowF w g n f' := fun j hj => by
  rw [← e j hj]; exact h j hj
theorem RowF.set {w : World} {g n : Nat} {f : Nat → Int} (h : RowF w g n f) (k : Nat) (x : Int) : RowF (w.setCell ⟨g, k, none⟩ (.int .u8 x)) g n fun j => if j = k then x else f j := fun j hj => by
  obtain ⟨h1, h2⟩ := h j hj
  refine ⟨?_, by rw [World.frozen?_setCell]; exact h2⟩
  by_cases e : j = k
  · subst e
    rw [World.cell?_setCell_same _ _ _ h1]
    simp
  · rw [World.cell?_setCell_other _ _ _ _ (by intro e'; injection e' with _ e2; exact e e2.symm), h1]
    simp [e]
theorem RowF.conv {w : World} {g n : Nat} {f : Nat → Int} (h : RowF w g n f) (c : Nat) : (convert 25 9 (.slice (some ⟨g, 0, none⟩) n c)).run Try.prog w = .ok (.string (strOfNums ((List.range n).map f))) w := by
  refine run_convert_bytes_arg w 25 5 Try.underlying25 Try.underlying5 g 0 n c _ (by simp) (fun i hi => ?_) 9 Try.underlying9
  rw [Nat.zero_add, (h i hi).1]
  simp [List.getD, hi]
/-- []byte(s) -/
theorem wpList_bytes_of (w : World) {ops : Array Oper} {rest : List Oper} {o : Oper} {a : Act} {Q : Exit → Act → World → Prop} (hgd : o.guard = none) (x : Operand) (hop : o.op = Op.convert 9 25 x) (s : ByteArray) (hx : a.eval x = .string s)
    (hK : ∀ g c w', w.heap.size ≤ g → g < w'.heap.size → RowF w' g s.size (bt s) → Below w.heap.size w w' → wpList Try.prog ops Q rest (a.put o.dst (.slice (some ⟨g, 0, none⟩) s.size c)) w') : wpList Try.prog ops Q (o :: rest) a w := by
  refine wpList_plain hgd fun K hK' => ?_
  have hrun := run_bytes_of_string (P := Try.prog) w 9 25 5 s Try.underlying9 Try.underlying25 Try.underlying5
  unfold Oper.wp
  simp only [execOp, hop, hx, Sem.run_bind, hrun, Result.andThen, Sem.run_pure, Sem.run_map]
  refine hK' _ _ (hK _ _ _ (Nat.le_refl _) (by simp) (fun j hj => ?_) ?_)
  · have hj' : j < s.data.size := hj
    refine ⟨?_, ?_⟩
    · have h1 := World.cell?_alloc_mark w.drew (bytesRow s (grownCap w s.size 0 5)) 5 ((bytesRow s (grownCap w s.size 0 5)).size, (bytesRow s (grownCap w s.size 0 5)).size + 1) j
      have h2 := bytesRow_at s (grownCap w s.size 0 5) j hj'
      rw [h2] at h1
      have h3 := get_bt s j hj
      rw [← h3]
      exact h1
    · have h1 := World.frozen?_alloc_mark w.drew (bytesRow s (grownCap w s.size 0 5)) 5 (bytesRow s (grownCap w s.size 0 5)).size ((bytesRow s (grownCap w s.size 0 5)).size + 1) j
      have h4 : j < (bytesRow s (grownCap w s.size 0 5)).size := by
        unfold bytesRow; simp; omega
      refine h1.trans ?_
      simp; omega
  · exact ((Below.refl w.heap.size w).drew).alloc (Nat.le_refl _) _
end Go.Proofs.Ytlmelclfdafhbaa
