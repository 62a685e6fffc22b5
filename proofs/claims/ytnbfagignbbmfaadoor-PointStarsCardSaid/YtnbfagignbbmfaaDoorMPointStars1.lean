/- Texts of one seat, one behind the other: Pt13, Ps0, Ps1, Ps2. No condition. -/
import Derived.Test.YtnbfagignbbmfaaDoorQ5
import Derived.Deep.RegionLaw
import Derived.OpenShut
import Derived.LaidMore
import Derived.BigRegion
import Derived.IntWalk
/-! Rows of numbers as nodes; an append inside a region that draws. -/
namespace Go.Proofs.YtnbfagignbbmfaaDoor
open Go.RowKit Go.PlainAid
set_option linter.unusedVariables false
set_option linter.unusedSimpArgs false
set_option maxRecDepth 100000
/-- nodes that lie somewhere, appended to nodes of the call's own, inside a region that draws -/
theorem step_pushNds {w : World} {ops : Array Oper} {o : Oper} {a : Act} {K : Act → World → Prop} {Q : Exit → Act → World → Prop} {E : Prop} (hgd : o.guard = none) (s x : Operand)
    (ho : o.op = .call { callee := .builtin .append, args := #[s, x], argTypes := #[23, 23] })
    (B : Nat) (v : Value) (n : Nat) (xs : List Value) (hs : a.eval s = v) (hown : w.ownsRow B 25 5 v n xs) (B2 : Nat) (A : Option Addr) (m c : Nat) (ys : List Value) (hr : Reads w B2 5 A m ys) (h1 : ∀ u ∈ ys, u.oneCell' = true)
    (hx : a.eval x = .slice A m c)
    (hlim : n + m ≤ 1000000000000) (hB : B ≤ w.heap.size)
    (h : ∀ v' w', w'.ownsRow B 25 5 v' (n + m) (xs ++ ys) → w.grownBy w' v.ownBlock → K (a.put o.dst v') w') :
    if Region.wanted o (yielded ops a.tmps) = true then Oper.wp Tryd.prog o a w K Q else E := by
  have hw : Region.wanted o (yielded ops a.tmps) = true := by simp [Region.wanted, hgd]
  rw [if_pos hw]
  obtain ⟨i0, hi0, hz0, hz1, hz2⟩ := info_parts nodeInfo
  obtain ⟨v', w', h1, h2, h3, h4⟩ := run_append_any (P := Tryd.prog) w B 23 o.type 25 i0 _ 5 80 Tryd.underlying23 hi0 hz0 hz1 hz2 rfl (by omega) v n _ hown B2 _ m c _ hr
    h1 (by simp only [maxLen]; omega) (by omega) hB
  unfold Oper.wp execOp
  simp only [ho, resolve, invoke, builtin, Sem.run_bind, Sem.run_pure, Result.andThen_ok, List.map_toArray, List.map_cons, List.map_nil, hs, hx, h1]
  exact h v' w' h2 h3
def numC (j : Nat) : List Value := [.int .i64 4, .int .i64 (j : Int), .string ⟨#[]⟩, .slice none 0 0, .slice none 0 0]
def numsC (k : Nat) : List Value := (List.range k).flatMap numC
def numsN (k : Nat) : List Nd := (List.range k).map fun (j : Nat) => num4 (j : Int)
theorem numsC_succ (k : Nat) : numsC (k + 1) = numsC k ++ numC k := by
  unfold numsC
  rw [List.range_succ, List.flatMap_append]
  simp
theorem numsN_succ (k : Nat) : numsN (k + 1) = numsN k ++ [num4 (k : Int)] := by
  unfold numsN
  rw [List.range_succ, List.map_append]
  rfl
theorem numsN_len (k : Nat) : (numsN k).length = k := by simp [numsN]
theorem NdsIs.snoc {w : World} {B : Nat} : ∀ (ns : List Nd) (xs : List Value) (n : Nd) (cs : List Value), NdsIs w B ns xs → NdIs w B n cs → NdsIs w B (ns ++ [n]) (xs ++ cs)
  | [], xs, n, cs, h, hn => by
    unfold NdsIs at h; subst h
    have := NdsIs.cons hn (NdsIs.nil_ (w := w) (B := B))
    simpa using this
  | m :: ns, xs, n, cs, h, hn => by
    unfold NdsIs at h
    obtain ⟨ds, ys, rfl, h2, h3⟩ := h
    have := NdsIs.cons h2 (NdsIs.snoc ns ys n cs h3 hn)
    simpa using this
theorem numsN_is (w : World) (B : Nat) : ∀ k, k ≤ 1000000 → NdsIs w B (numsN k) (numsC k)
  | 0, _ => NdsIs.nil_
  | k + 1, h => by
    rw [numsN_succ, numsC_succ]
    exact NdsIs.snoc _ _ _ _ (numsN_is w B k (by omega)) (num4_is _ (by unfold I64; omega) w B)
theorem numsN_right (k : Nat) (deep : Int) (h : k ≤ 1000000) : rightLD (numsN k) deep = true := by
  have e : ∀ l : List Nd, (∀ n ∈ l, rightD n deep = true) → rightLD l deep = true := fun l => by
    induction l with
    | nil => intro _; exact rightLD_nil _
    | cons n l ih => intro hl; rw [rightLD_cons, hl n (by simp), ih (fun m hm => hl m (by simp [hm]))]; rfl
  refine e _ fun n hn => ?_
  unfold numsN at hn
  rw [List.mem_map] at hn
  obtain ⟨j, hj, rfl⟩ := hn
  have := List.mem_range.1 hj
  exact rightD_num4 _ (by omega) (by omega)
theorem numsN_size (k : Nat) (h : k ≤ 1000000) : sizeOkL (numsN k) := by
  have e : ∀ l : List Nd, (∀ n ∈ l, sizeOk n) → sizeOkL l := fun l => by
    induction l with
    | nil => intro _; exact sizeL_nil
    | cons n l ih => intro hl; exact sizeL_cons (hl n (by simp)) (ih (fun m hm => hl m (by simp [hm])))
  refine e _ fun n hn => ?_
  unfold numsN at hn
  rw [List.mem_map] at hn
  obtain ⟨j, hj, rfl⟩ := hn
  have := List.mem_range.1 hj
  exact size_num4 (by unfold I64; omega)
theorem numsN_count (k : Nat) : Nd.count.counts (numsN k) = k := by
  induction k with
  | zero => rfl
  | succ k ih => rw [numsN_succ, counts_app, ih]; simp [Nd.count.counts, count_num4]
end Go.Proofs.YtnbfagignbbmfaaDoor
/-! What a star takes of two rows of objects. -/
namespace Go.Proofs.YtnbfagignbbmfaaDoor
open Go.RowKit Go.PlainAid
set_option linter.unusedVariables false
set_option linter.unusedSimpArgs false
set_option maxRecDepth 100000
theorem rightLD_all (deep : Int) : ∀ l : List Nd, (∀ n ∈ l, rightD n deep = true) → rightLD l deep = true
  | [], _ => rightLD_nil _
  | n :: l, h => by rw [rightLD_cons, h n (by simp), rightLD_all deep l (fun m hm => h m (by simp [hm]))]; rfl
theorem sizeL_all : ∀ l : List Nd, (∀ n ∈ l, sizeOk n) → sizeOkL l
  | [], _ => sizeL_nil
  | n :: l, h => sizeL_cons (h n (by simp)) (sizeL_all l (fun m hm => h m (by simp [hm])))
theorem counts_all (c : Nat) : ∀ l : List Nd, (∀ n ∈ l, n.count ≤ c) → Nd.count.counts l ≤ c * l.length
  | [], _ => by simp [Nd.count.counts]
  | n :: l, h => by
    have h1 := h n (by simp)
    have h2 := counts_all c l (fun m hm => h m (by simp [hm]))
    simp only [Nd.count.counts, List.length_cons, Nat.mul_add]; omega
def pathSI : ByteArray := ⟨#[47, 42, 47, 105, 100]⟩
theorem pathSI_form : formP pathSI = true := by unfold formP pathSI; rw [tl_lit]; decide
theorem pathSI_parts : partsP pathSI = [⟨#[42]⟩, ⟨#[105, 100]⟩] := by unfold partsP pathSI; rw [tl_lit]; rfl
theorem starL_map {α : Type} (f : Nd → Option Nd) (mk r : α → Nd) (h : ∀ x, f (mk x) = some (r x)) : ∀ (l : List α) (acc : List Nd), starL f (l.map mk) acc = some (l.foldl (fun acc x => starAdd (r x) acc) acc)
  | [], acc => rfl
  | x :: l, acc => by
    show starL f (mk x :: l.map mk) acc = _
    unfold starL
    rw [h x]
    exact starL_map f mk r h l _
theorem get_star {ns : List Nd} {p : ByteArray} {out : List Nd} (h : starL (getN [p]) ns [] = some out) : getN [⟨#[42]⟩, p] (.mk 6 0 ⟨#[]⟩ [] ns) = some (.mk 6 0 ⟨#[]⟩ [] out) := by
  have h6 : (Nd.mk 6 0 ⟨#[]⟩ [] ns).kind = 6 := rfl
  rw [getN, if_neg (by rw [h6]; decide), if_pos h6, if_pos (tl_lit _)]
  show (match starL (getN [p]) ns [] with | none => none | some ns => some (Nd.mk 6 0 ⟨#[]⟩ [] ns)) = _
  rw [h]
/-! the first row -/
def ndAk (n : Int) : Nd := .mk 7 0 ⟨#[]⟩ [⟨#[120]⟩, ⟨#[105, 100]⟩] [num4 1, num4 n]
def ndA (l : List Int) : Nd := .mk 6 0 ⟨#[]⟩ [] (l.map ndAk)
def I16 (n : Int) : Prop := -32768 ≤ n ∧ n ≤ 32767
theorem ndAk_right (n : Int) (h : I16 n) : rightD (ndAk n) 1 = true := by
  unfold ndAk I16 at *
  refine rightD_obj (by omega) rfl (keysB_of _ (by simp) (by intro s hs; simp at hs; rcases hs with rfl | rfl <;> rw [tl_lit] <;> decide)) ?_
  rw [rightLD_cons, rightLD_cons, rightLD_nil, rightD_num4 _ (by omega) (by omega), rightD_num4 _ (by omega) (by omega)]; rfl
theorem ndAk_size (n : Int) (h : I16 n) : sizeOk (ndAk n) := by
  unfold ndAk I16 at *
  exact size_lit (by intro s hs; simp at hs; rcases hs with rfl | rfl <;> decide) (by simp) (by simp) (sizeL_cons (size_num4 (by unfold I64; omega)) (sizeL_cons (size_num4 (by unfold I64; omega)) sizeL_nil))
theorem ndAk_count (n : Int) : (ndAk n).count = 3 := by unfold ndAk; simp [Nd.count, Nd.count.counts, count_num4]
theorem ndA_right (l : List Int) (h : ∀ n ∈ l, I16 n) : rightD (ndA l) 0 = true := by
  unfold ndA
  refine rightD_arr6 (by omega) (rightLD_all _ _ fun m hm => ?_)
  obtain ⟨n, hn, rfl⟩ := List.mem_map.1 hm
  exact ndAk_right n (h n hn)
theorem ndA_size (l : List Int) (h : ∀ n ∈ l, I16 n) (hl : l.length ≤ 100) : sizeOk (ndA l) ∧ (ndA l).count ≤ 1000000 := by
  unfold ndA
  refine ⟨size_lit (by simp) (by simp) (by simp; omega) (sizeL_all _ fun m hm => ?_), ?_⟩
  · obtain ⟨n, hn, rfl⟩ := List.mem_map.1 hm
    exact ndAk_size n (h n hn)
  · have := counts_all 3 (l.map ndAk) (fun m hm => by obtain ⟨n, hn, rfl⟩ := List.mem_map.1 hm; rw [ndAk_count]; exact Nat.le_refl _)
    simp only [Nd.count, List.length_map] at this ⊢; omega
theorem foldA : ∀ (l : List Int) (acc : List Nd), l.foldl (fun acc x => starAdd (num4 x) acc) acc = acc ++ l.map num4
  | [], acc => by simp
  | x :: l, acc => by
    show l.foldl _ (starAdd (num4 x) acc) = _
    rw [foldA l]
    have : starAdd (num4 x) acc = acc ++ [num4 x] := by unfold starAdd num4; rw [if_neg (by show ¬ (4 : Int) = 6; decide)]
    rw [this]; simp
theorem starsA (l : List Int) (h : ∀ n ∈ l, I16 n) : pointN (ndA l) pathSI = (some (.mk 6 0 ⟨#[]⟩ [] (l.map num4)), 0) := by
  refine pointN_some (ndA_right l h) pathSI_form ?_
  rw [pathSI_parts]
  refine get_star ?_
  rw [starL_map (getN [⟨#[105, 100]⟩]) ndAk num4 (fun x => by
    unfold ndAk
    rw [getN_find (m := num4 x) rfl (findN_lit (i := 1) (by simp only [List.map_cons, List.map_nil, tl_lit]; decide))]
    rfl), foldA]
  rfl
/-! the second row -/
def ndBk (l : List Int) : Nd := .mk 7 0 ⟨#[]⟩ [⟨#[105, 100]⟩] [.mk 6 0 ⟨#[]⟩ [] (l.map num4)]
def ndB (B : List (List Int)) : Nd := .mk 6 0 ⟨#[]⟩ [] (B.map ndBk)
def OkB (B : List (List Int)) : Prop := B.length ≤ 100 ∧ ∀ l ∈ B, l.length ≤ 3 ∧ ∀ n ∈ l, I16 n
theorem ndBk_right (l : List Int) (h : ∀ n ∈ l, I16 n) : rightD (ndBk l) 1 = true := by
  unfold ndBk
  refine rightD_obj (by omega) rfl (keysB_of _ (by simp) (by intro s hs; simp at hs; subst hs; rw [tl_lit]; decide)) ?_
  rw [rightLD_cons, rightLD_nil, Bool.and_true]
  refine rightD_arr6 (by omega) (rightLD_all _ _ fun m hm => ?_)
  obtain ⟨n, hn, rfl⟩ := List.mem_map.1 hm
  have := h n hn
  unfold I16 at this
  exact rightD_num4 _ (by omega) (by omega)
theorem ndBk_size (l : List Int) (h : ∀ n ∈ l, I16 n) (hl : l.length ≤ 3) : sizeOk (ndBk l) := by
  unfold ndBk
  refine size_lit (by intro s hs; simp at hs; subst hs; decide) (by simp) (by simp) (sizeL_cons (size_lit (by simp) (by simp) (by simp; omega) (sizeL_all _ fun m hm => ?_)) sizeL_nil)
  obtain ⟨n, hn, rfl⟩ := List.mem_map.1 hm
  have := h n hn
  unfold I16 at this
  exact size_num4 (by unfold I64; omega)
theorem ndBk_count (l : List Int) (hl : l.length ≤ 3) : (ndBk l).count ≤ 5 := by
  unfold ndBk
  have := counts_all 1 (l.map num4) (fun m hm => by obtain ⟨n, hn, rfl⟩ := List.mem_map.1 hm; rw [count_num4]; exact Nat.le_refl _)
  simp only [Nd.count, Nd.count.counts, List.length_map] at this ⊢; omega
theorem ndB_right (B : List (List Int)) (h : OkB B) : rightD (ndB B) 0 = true := by
  unfold ndB
  refine rightD_arr6 (by omega) (rightLD_all _ _ fun m hm => ?_)
  obtain ⟨l, hl, rfl⟩ := List.mem_map.1 hm
  exact ndBk_right l (h.2 l hl).2
theorem ndB_size (B : List (List Int)) (h : OkB B) : sizeOk (ndB B) ∧ (ndB B).count ≤ 1000000 := by
  unfold ndB
  have hl := h.1
  refine ⟨size_lit (by simp) (by simp) (by simp; omega) (sizeL_all _ fun m hm => ?_), ?_⟩
  · obtain ⟨l, hl, rfl⟩ := List.mem_map.1 hm
    exact ndBk_size l (h.2 l hl).2 (h.2 l hl).1
  · have := counts_all 5 (B.map ndBk) (fun m hm => by obtain ⟨l, hl, rfl⟩ := List.mem_map.1 hm; exact ndBk_count l (h.2 l hl).1)
    simp only [Nd.count, List.length_map] at this ⊢; omega
theorem foldB : ∀ (B : List (List Int)) (acc : List Nd), B.foldl (fun acc l => starAdd (.mk 6 0 ⟨#[]⟩ [] (l.map num4)) acc) acc = acc ++ B.flatten.map num4
  | [], acc => by simp
  | l :: B, acc => by
    show B.foldl _ (starAdd _ acc) = _
    rw [foldB B]
    have : starAdd (.mk 6 0 ⟨#[]⟩ [] (l.map num4)) acc = acc ++ l.map num4 := by unfold starAdd; rw [if_pos (show (Nd.mk 6 0 ⟨#[]⟩ [] (List.map num4 l)).kind = 6 from rfl)]; rfl
    rw [this]; simp
theorem starsB (B : List (List Int)) (h : OkB B) : pointN (ndB B) pathSI = (some (.mk 6 0 ⟨#[]⟩ [] (B.flatten.map num4)), 0) := by
  refine pointN_some (ndB_right B h) pathSI_form ?_
  rw [pathSI_parts]
  refine get_star ?_
  rw [starL_map (getN [⟨#[105, 100]⟩]) ndBk (fun l => .mk 6 0 ⟨#[]⟩ [] (l.map num4)) (fun l => by
    unfold ndBk
    rw [getN_find (m := .mk 6 0 ⟨#[]⟩ [] (l.map num4)) rfl (findN_lit (i := 0) (by simp only [List.map_cons, List.map_nil, tl_lit]; decide))]
    rfl), foldB]
  rfl
end Go.Proofs.YtnbfagignbbmfaaDoor
/-! Rows that grow side by side: what each push keeps. -/
namespace Go.Proofs.YtnbfagignbbmfaaDoor
open Go.RowKit Go.PlainAid
set_option linter.unusedVariables false
set_option linter.unusedSimpArgs false
set_option maxRecDepth 100000
theorem belA {w w' : World} {o : Obj} (h : Below w.heap.size w w') : Below w.heap.size w (w'.alloc o) := h.alloc h.size o
theorem belD {w w' : World} (h : Below w.heap.size w w') : Below w.heap.size w w'.drew := h.drew
theorem Blk.at_ {w : World} {t : TypeId} {cs : Array Value} {g : Nat} (h : w.heap.size = g) : Blk (w.alloc (.cells cs t)) g t cs := by subst h; exact Blk.new w t cs
theorem sOf {w w' : World} {p : Addr} {v : Value} (h : w.cell? p = some v) (k : Below w.heap.size w w') : w'.cell? p = some v ∧ Below w.heap.size w w' := ⟨(k.cell (World.block_lt_of_cell? _ _ h)).trans h, k⟩
/-- rows of whole numbers that came in -/
theorem rowInt {k : IntKind} {lo hi : Int} (e1 : k.min = lo) (e2 : k.max = hi) {w : World} {a : Option Addr} {len cap : Nat} {zs : List Int} (h : IsRow k w a len cap zs) :
    ∃ l : List Int, l.length = len ∧ (∀ n ∈ l, lo ≤ n ∧ n ≤ hi) ∧ ∀ i, i < len → ∃ b off, a = some ⟨b, off, none⟩ ∧ b < w.heap.size ∧ w.cell? ⟨b, off + i, none⟩ = some (.int k (l.getD i 0)) := by
  rcases h with ⟨rfl, rfl, rfl, rfl⟩ | ⟨x, rfl, h1, h2, h3, h4, h5⟩
  · exact ⟨[], rfl, by simp, fun i hi => by omega⟩
  · refine ⟨zs.take len, by rw [List.length_take]; omega, fun n hn => ?_, fun i hi => ?_⟩
    · have hm := h5 n (List.mem_of_mem_take hn)
      simp [Lit.wf] at hm
      rw [e1, e2] at hm
      exact hm
    · obtain ⟨b, off, rfl, h6⟩ := ints_at h4 (by omega)
      refine ⟨b, off, rfl, World.block_lt_of_cell? _ _ (h6 i (by omega)), ?_⟩
      rw [h6 i (by omega)]
      simp [List.getD, List.getElem?_take, hi]
theorem step_pushNds2 {w : World} {ops : Array Oper} {o : Oper} {a : Act} {K : Act → World → Prop} {Q : Exit → Act → World → Prop} {E : Prop} (hgd : o.guard = none) (s x : Operand)
    (ho : o.op = .call { callee := .builtin .append, args := #[s, x], argTypes := #[23, 23] })
    (B : Nat) (v : Value) (n : Nat) (xs : List Value) (hs : a.eval s = v) (hown : w.ownsRow B 25 5 v n xs) (B2 : Nat) (A : Option Addr) (m c : Nat) (ys : List Value) (hr : Reads w B2 5 A m ys) (h1 : ∀ u ∈ ys, u.oneCell' = true)
    (hx : a.eval x = .slice A m c)
    (hlim : n + m ≤ 1000000000000) (hB : B ≤ w.heap.size)
    (h : ∀ v' w', w'.ownsRow B 25 5 v' (n + m) (xs ++ ys) → w.grownBy w' v.ownBlock → (v'.ownBlock = v.ownBlock ∨ ∃ g, v'.ownBlock = some g ∧ w.heap.size ≤ g) → K (a.put o.dst v') w') :
    if Region.wanted o (yielded ops a.tmps) = true then Oper.wp Tryd.prog o a w K Q else E := by
  have hw : Region.wanted o (yielded ops a.tmps) = true := by simp [Region.wanted, hgd]
  rw [if_pos hw]
  obtain ⟨i0, hi0, hz0, hz1, hz2⟩ := info_parts nodeInfo
  obtain ⟨v', w', h1, h2, h3, h4⟩ := run_append_any (P := Tryd.prog) w B 23 o.type 25 i0 _ 5 80 Tryd.underlying23 hi0 hz0 hz1 hz2 rfl (by omega) v n _ hown B2 _ m c _ hr
    h1 (by simp only [maxLen]; omega) (by omega) hB
  unfold Oper.wp execOp
  simp only [ho, resolve, invoke, builtin, Sem.run_bind, Sem.run_pure, Result.andThen_ok, List.map_toArray, List.map_cons, List.map_nil, hs, hx, h1]
  refine h v' w' h2 h3 ?_
  rcases h4 with h4 | h4
  · exact .inl h4
  · exact .inr ⟨_, h4, by simp⟩
theorem intInfo : (Tryd.prog.info? 3).map (fun i => (i.zero, i.size, i.bytes)) = some (some (.int .i64 0), 1, 8) := by kernel_rfl
theorem wpList_pushInt (w : World) {ops : Array Oper} {rest : List Oper} {o : Oper} {a : Act} {Q : Exit → Act → World → Prop} (hgd : o.guard = none) (s x : Operand)
    (ho : o.op = .call { callee := .builtin .append, args := #[s, x], argTypes := #[41, 41] })
    (B : Nat) (v : Value) (n : Nat) (xs : List Value) (hs : a.eval s = v) (hown : w.ownsRow B 3 1 v n xs) (z : Int)
    (hx : a.eval x = .slice (some ⟨w.heap.size, 0, none⟩) 1 1) (hlim : n + 1 ≤ 1000000000000) (hB : B ≤ w.heap.size)
    (h : ∀ v' w', w'.ownsRow B 3 1 v' (n + 1) (xs ++ [.int .i64 z]) → w.grownBy w' v.ownBlock → (v'.ownBlock = v.ownBlock ∨ ∃ g, v'.ownBlock = some g ∧ w.heap.size ≤ g) → wpList Tryd.prog ops Q rest (a.put o.dst v') w') :
    wpList Tryd.prog ops Q (o :: rest) a (w.alloc (.cells #[.int .i64 z] 3)) := by
  obtain ⟨i0, hi0, hz0, hz1, hz2⟩ := info_parts intInfo
  refine wpList_plain hgd fun K hK => ?_
  obtain ⟨v', w', h1, h2, h3, h4⟩ := run_append_any (P := Tryd.prog) _ B 41 o.type 3 i0 _ 1 8 Tryd.underlying41 hi0 hz0 hz1 hz2 rfl (by omega) v n _ (World.ownsRow.alloc hown _) (w.heap.size + 1) _ 1 1 [.int .i64 z]
    (Reads.of_blk (Blk.new w 3 #[.int .i64 z]) (by simp) rfl) (fun u hu => by simp at hu; subst hu; rfl) (by simp only [maxLen]; omega) (by omega) (by simp; omega)
  unfold Oper.wp execOp
  simp only [ho, resolve, invoke, builtin, Sem.run_bind, Sem.run_pure, Result.andThen_ok, List.map_toArray, List.map_cons, List.map_nil, hs, hx, h1]
  refine hK _ _ (h v' w' h2 ((World.grownBy_alloc w _ _).trans h3) ?_)
  rcases h4 with h4 | h4
  · exact .inl h4
  · exact .inr ⟨_, h4, by simp⟩
theorem RS.of_blk {w : World} {g : Nat} {t : TypeId} {cs : List Value} {size n : Nat} {S : Nat → Prop} (h : Blk w g t cs.toArray) (hg : S g) (hl : cs.length = n * size) : RS w S size (some ⟨g, 0, none⟩) n cs :=
  ⟨hl, fun _ => ⟨_, rfl, hg, fun j u hu => by
    have e : (⟨g, 0, none⟩ : Addr).add j = ⟨g, j, none⟩ := by unfold Addr.add; split <;> simp_all
    rw [e, h.cell j]; simpa using hu⟩⟩
theorem NdsIn.cons {w : World} {S : Nat → Prop} {n : Nd} {cs : List Value} {ns : List Nd} {xs : List Value} (h : NdIn w S n cs) (hs : NdsIn w S ns xs) : NdsIn w S (n :: ns) (cs ++ xs) := by
  unfold NdsIn; exact ⟨cs, xs, rfl, h, hs⟩
theorem NdIn.lit {w : World} {S : Nat → Prop} {k : Int} {ks : List ByteArray} {ns : List Nd} {K A : Option Addr} {xs : List Value} {ck c lk ln : Nat} (hlk : lk = ks.length) (hln : ln = ns.length) (hk : RS w S 1 K ks.length (ks.map Value.string)) (hx : RS w S 5 A ns.length xs) (hn : NdsIn w S ns xs) (h0 : I64 k) (h1 : ∀ s ∈ ks, s.size ≤ 1000000) (h2 : ks.length ≤ 1000000) (h3 : ns.length ≤ 1000000) :
    NdIn w S (.mk k 0 ⟨#[]⟩ ks ns) [.int .i64 k, .int .i64 0, .string ⟨#[]⟩, .slice K lk ck, .slice A ln c] := by
  subst hlk hln
  unfold NdIn
  exact ⟨K, ck, A, c, xs, rfl, hk, hx, hn, h0, by unfold I64; omega, by (show (0 : Nat) ≤ maxLen); exact Nat.zero_le _, fun s hs => by have := h1 s hs; unfold maxLen; omega, by unfold maxLen; omega, by unfold maxLen; omega⟩
/-- a row and its nodes -/
def AInv (H : Nat) (ns : List Nd) (v : Value) (n : Nat) (w : World) : Prop := ∃ xs, w.ownsRow H 25 5 v n xs ∧ NdsIn w (SK H w v) ns xs
theorem below_grown {B : Nat} {w w2 w4 : World} {r : Option Nat} (h : Below B w w2) (hB : B ≤ w.heap.size) (hg : w2.grownBy w4 r) (hr : ∀ g, r = some g → B ≤ g) : Below B w w4 := h.grown hg (Nat.le_trans hB h.size) hr
theorem row_push {H : Nat} {ns : List Nd} {v v' : Value} {i : Nat} {xs cs : List Value} {n : Nd} {wo w2 w4 : World} (hown : wo.ownsRow H 25 5 v i xs) (hnds : NdsIn wo (SK H wo v) ns xs) (hH : H ≤ wo.heap.size) (hw2 : Below wo.heap.size wo w2)
    (hn : NdIn w2 (fun b => wo.heap.size ≤ b ∧ b < w2.heap.size) n cs) (hg : w2.grownBy w4 v.ownBlock) (ho4 : w4.ownsRow H 25 5 v' (i + 1) (xs ++ cs)) (hv : v'.ownBlock = v.ownBlock ∨ ∃ g, v'.ownBlock = some g ∧ w2.heap.size ≤ g) : AInv H (ns ++ [n]) v' (i + 1) w4 :=
  ⟨_, ho4, NdsIn.app ns xs n cs (NdsIn.keep (push_keep (v' := v') hw2 hg) (push_sub hw2 hg hv) _ _ hnds) (NdIn.keep (push_new_keep (B := 0) hg (fun g h => (own_lt hown h).2)) (push_new_sub hH hg (fun g h => (own_lt hown h).2) hv) _ _ hn)⟩
theorem num4_in (n : Int) (w : World) (S : Nat → Prop) (h : I64 n) : NdIn w S (num4 n) [.int .i64 4, .int .i64 n, .string ⟨#[]⟩, .slice none 0 0, .slice none 0 0] := by
  unfold num4 NdIn
  exact ⟨none, 0, none, 0, [], rfl, RS.none_, RS.none_, NdsIn.nil, by unfold I64; omega, h, by (show (0 : Nat) ≤ maxLen); exact Nat.zero_le _, by simp, by simp [maxLen], by simp [maxLen]⟩
theorem ndAk_in {w : World} {S : Nat → Prop} {z : Int} (hz : I64 z) {g1 g2 : Nat} (h1 : Blk w g1 9 #[.string ⟨#[120]⟩, .string ⟨#[105, 100]⟩]) (h2 : Blk w g2 25 #[.int .i64 4, .int .i64 1, .string ⟨#[]⟩, .slice none 0 0, .slice none 0 0, .int .i64 4, .int .i64 z, .string ⟨#[]⟩, .slice none 0 0, .slice none 0 0]) (s1 : S g1) (s2 : S g2) :
    NdIn w S (ndAk z) [.int .i64 7, .int .i64 0, .string ⟨#[]⟩, .slice (some ⟨g1, 0, none⟩) 2 2, .slice (some ⟨g2, 0, none⟩) 2 2] := by
  unfold ndAk
  exact NdIn.lit (ks := [⟨#[120]⟩, ⟨#[105, 100]⟩]) (ns := [num4 1, num4 z]) rfl rfl (RS.of_blk h1 s1 rfl) (RS.of_blk h2 s2 rfl) (NdsIn.cons (num4_in 1 w S (by unfold I64; omega)) (NdsIn.cons (num4_in z w S hz) NdsIn.nil)) (by unfold I64; omega) (by intro s hs; simp at hs; rcases hs with rfl | rfl <;> decide) (by simp) (by simp)
/-! the second row beside the numbers that are wanted -/
def SX (H U : Nat) (vb vw : Value) (b : Nat) : Prop := H ≤ b ∧ b < U ∧ vb.ownBlock ≠ some b ∧ vw.ownBlock ≠ some b
def BInv (H U : Nat) (ns : List Nd) (vb vw : Value) (n : Nat) (w : World) : Prop := ∃ xs, w.ownsRow H 25 5 vb n xs ∧ NdsIn w (SX H U vb vw) ns xs
theorem own_ne2 {w : World} {B B' s s' n n' : Nat} {e e' : TypeId} {v v' : Value} {xs xs' : List Value} (h : w.ownsRow B e s v n xs) (h' : w.ownsRow B' e' s' v' n' xs') (hne : e ≠ e') : v.ownBlock = none ∨ v.ownBlock ≠ v'.ownBlock := by
  rcases h.2 with ⟨rfl, _⟩ | ⟨g, cap, cur, rfl, hb, hc, _⟩
  · exact .inl rfl
  · refine .inr fun e => ?_
    rcases h'.2 with ⟨rfl, _⟩ | ⟨g', cap', cur', rfl, hb', hc', _⟩
    · simp [Value.ownBlock] at e
    · simp [Value.ownBlock] at e
      subst e
      rw [hc] at hc'
      injection hc' with hc'
      injection hc' with _ ht
      exact hne ht
/-- a push to a row that lies apart -/
theorem BInv.far {H U : Nat} {ns : List Nd} {vb vw : Value} {n : Nat} {w w' : World} {r : Option Nat} (h : BInv H U ns vb vw n w) (hU : U ≤ w.heap.size) (hg : w.grownBy w' r) (hr : ∀ g, r = some g → U ≤ g) (hne : vb.ownBlock = none ∨ vb.ownBlock ≠ r) : BInv H U ns vb vw n w' := by
  obtain ⟨xs, h1, h2⟩ := h
  refine ⟨xs, World.ownsRow.kept h1 hg hne, NdsIn.keep (fun p hp => ?_) (fun _ h => h) _ _ h2⟩
  exact World.cell?_of_block (hg.block p.block (by have := hp.2.1; omega) (fun e => by have := hr _ e.symm; have := hp.2.1; omega))
/-- a push to the numbers that are wanted -/
theorem BInv.want {H U : Nat} {ns : List Nd} {vb vw vw' : Value} {n : Nat} {w w' : World} (h : BInv H U ns vb vw n w) (hU : U ≤ w.heap.size) (hg : w.grownBy w' vw.ownBlock) (hv : vw'.ownBlock = vw.ownBlock ∨ ∃ g, vw'.ownBlock = some g ∧ w.heap.size ≤ g) (hne : vb.ownBlock = none ∨ vb.ownBlock ≠ vw.ownBlock) : BInv H U ns vb vw' n w' := by
  obtain ⟨xs, h1, h2⟩ := h
  refine ⟨xs, World.ownsRow.kept h1 hg hne, NdsIn.keep (fun p hp => ?_) (fun b hb => ?_) _ _ h2⟩
  · exact World.cell?_of_block (hg.block p.block (by have := hp.2.1; omega) (fun e => hp.2.2.2 e.symm))
  · refine ⟨hb.1, hb.2.1, hb.2.2.1, ?_⟩
    rcases hv with e | ⟨g, e, hge⟩
    · rw [e]; exact hb.2.2.2
    · rw [e]; intro e2; injection e2 with e2; have := hb.2.1; omega
/-- a push to the second row itself -/
theorem BInv.push {H U : Nat} {ns : List Nd} {vb vw v' : Value} {n : Nat} {m : Nd} {xs cs : List Value} {wo w2 w4 : World} (h1 : wo.ownsRow H 25 5 vb n xs) (h2 : NdsIn wo (SX H U vb vw) ns xs) (hH : H ≤ U) (hU : U ≤ wo.heap.size) (hw2 : Below wo.heap.size wo w2)
    (hvb : ∀ g, vb.ownBlock = some g → g < U) (hn : NdIn w2 (fun b => U ≤ b ∧ b < w2.heap.size ∧ vw.ownBlock ≠ some b) m cs) (hg : w2.grownBy w4 vb.ownBlock) (ho4 : w4.ownsRow H 25 5 v' (n + 1) (xs ++ cs)) (hv : v'.ownBlock = vb.ownBlock ∨ ∃ g, v'.ownBlock = some g ∧ w2.heap.size ≤ g) : BInv H w2.heap.size (ns ++ [m]) v' vw (n + 1) w4 := by
  have hs2 := hw2.size
  refine ⟨_, ho4, NdsIn.app _ _ _ _ (NdsIn.keep (fun p hp => ?_) (fun b hb => ?_) _ _ h2) (NdIn.keep (fun p hp => ?_) (fun b hb => ?_) _ _ hn)⟩
  · refine (World.cell?_of_block (hg.block p.block (by have := hp.2.1; omega) (fun e => hp.2.2.1 e.symm))).trans (hw2.cell (by have := hp.2.1; omega))
  · refine ⟨hb.1, by have := hb.2.1; omega, ?_, hb.2.2.2⟩
    rcases hv with e | ⟨g, e, hge⟩
    · rw [e]; exact hb.2.2.1
    · rw [e]; intro e2; injection e2 with e2; have := hb.2.1; omega
  · exact World.cell?_of_block (hg.block p.block hp.2.1 (fun e => by have := hvb _ e.symm; have := hp.1; omega))
  · refine ⟨by have := hb.1; omega, hb.2.1, ?_, hb.2.2⟩
    rcases hv with e | ⟨g, e, hge⟩
    · rw [e]; intro e2; have := hvb b e2; have := hb.1; omega
    · rw [e]; intro e2; injection e2 with e2; have := hb.2.1; omega
theorem BInv.more {H U U' : Nat} {ns : List Nd} {vb vw : Value} {n : Nat} {w : World} (h : BInv H U ns vb vw n w) (hU : U ≤ U') : BInv H U' ns vb vw n w := by
  obtain ⟨xs, h1, h2⟩ := h
  exact ⟨xs, h1, NdsIn.keep (fun _ _ => rfl) (fun b hb => ⟨hb.1, Nat.lt_of_lt_of_le hb.2.1 hU, hb.2.2⟩) _ _ h2⟩
def rowF (z : List Int) (i : Nat) : List Int := (List.range ((z.getD i 0) % 4).toNat).map fun (j : Nat) => ((i + j : Nat) : Int)
def rowsF (z : List Int) (i : Nat) : List (List Int) := (List.range i).map (rowF z)
theorem rowsF_succ (z : List Int) (i : Nat) : rowsF z (i + 1) = rowsF z i ++ [rowF z i] := by unfold rowsF; rw [List.range_succ, List.map_append]; rfl
theorem rowsF_ok (z : List Int) (i : Nat) (hi : i ≤ 100) : OkB (rowsF z i) := by
  unfold rowsF
  refine ⟨by simp; exact hi, fun l hl => ?_⟩
  obtain ⟨j, hj, rfl⟩ := List.mem_map.1 hl
  have := List.mem_range.1 hj
  unfold rowF
  refine ⟨by simp; omega, fun n hn => ?_⟩
  obtain ⟨k, hk, rfl⟩ := List.mem_map.1 hn
  have := List.mem_range.1 hk
  unfold I16; omega
theorem rowsF_len (m : List Int) : ∀ i, i ≤ 100 → (rowsF m i).flatten.length ≤ 3 * i
  | 0, _ => Nat.le_refl _
  | i + 1, hi => by
    have h1 := (rowsF_ok m (i + 1) hi).2 (rowF m i) (by rw [rowsF_succ]; simp)
    have h2 := rowsF_len m i (by omega)
    have h3 : (rowsF m (i + 1)).flatten.length = (rowsF m i).flatten.length + (rowF m i).length := by rw [rowsF_succ, List.flatten_append, List.length_append]; simp
    have := h1.1
    omega
def partF (i j : Nat) : List Int := (List.range j).map fun (k : Nat) => ((i + k : Nat) : Int)
theorem partF_succ (i j : Nat) : partF i (j + 1) = partF i j ++ [((i + j : Nat) : Int)] := by unfold partF; rw [List.range_succ, List.map_append]; rfl
def kC (i j : Nat) : List Value := (List.range j).flatMap fun k => numC (i + k)
theorem kC_succ (i j : Nat) : kC i (j + 1) = kC i j ++ numC (i + j) := by unfold kC; rw [List.range_succ, List.flatMap_append]; simp
theorem kC_in (w : World) (S : Nat → Prop) (i : Nat) (hi : i ≤ 1000) : ∀ j, j ≤ 1000 → NdsIn w S ((partF i j).map num4) (kC i j)
  | 0, _ => NdsIn.nil
  | j + 1, h => by
    rw [partF_succ, kC_succ, List.map_append]
    exact NdsIn.app _ _ _ _ (kC_in w S i hi j (by omega)) (num4_in _ w S (by unfold I64; omega))
theorem ndBk_in {w : World} {S : Nat → Prop} {i j : Nat} (hi : i ≤ 1000) (hj : j ≤ 1000) {g1 g2 : Nat} {Ak : Option Addr} {ck : Nat} (h1 : Blk w g1 9 #[.string ⟨#[105, 100]⟩]) (h2 : Blk w g2 25 #[.int .i64 6, .int .i64 0, .string ⟨#[]⟩, .slice none 0 0, .slice Ak j ck]) (hr : RS w S 5 Ak j (kC i j)) (s1 : S g1) (s2 : S g2) :
    NdIn w S (ndBk (partF i j)) [.int .i64 7, .int .i64 0, .string ⟨#[]⟩, .slice (some ⟨g1, 0, none⟩) 1 1, .slice (some ⟨g2, 0, none⟩) 1 1] := by
  have hl : ((partF i j).map num4).length = j := by simp [partF]
  unfold ndBk
  refine NdIn.lit (ks := [⟨#[105, 100]⟩]) (ns := [.mk 6 0 ⟨#[]⟩ [] ((partF i j).map num4)]) rfl rfl (RS.of_blk h1 s1 rfl) (RS.of_blk h2 s2 rfl) ?_ (by unfold I64; omega) (by intro s hs; simp at hs; subst hs; decide) (by simp) (by simp)
  refine NdsIn.cons (cs := [.int .i64 6, .int .i64 0, .string ⟨#[]⟩, .slice none 0 0, .slice Ak j ck]) (NdIn.lit (ks := []) rfl hl.symm RS.none_ (by rw [hl]; exact hr) (kC_in w S i hi j hj) (by unfold I64; omega) (by simp) (by simp) (by rw [hl]; omega)) NdsIn.nil
theorem AInv.arr {H : Nat} {ns : List Nd} {A : Option Addr} {n c : Nat} {w : World} (h : AInv H ns (.slice A n c) n w) (hl : n = ns.length) (h2 : ns.length ≤ 1000000) : NdIs w w.heap.size (.mk 6 0 ⟨#[]⟩ [] ns) [.int .i64 6, .int .i64 0, .string ⟨#[]⟩, .slice none 0 0, .slice A n c] := by
  obtain ⟨xs, h1, h3⟩ := h
  have hr := own_readsP h1
  rw [hl] at hr
  exact NdIs.lit (ks := []) rfl hl Reads.none_ hr (NdsIn.is (fun b hb => hb.2.1) _ _ h3) (by unfold I64; omega) (by simp) (by simp) h2
theorem BInv.arr {H U : Nat} {ns : List Nd} {A : Option Addr} {n c : Nat} {vw : Value} {w : World} (h : BInv H U ns (.slice A n c) vw n w) (hU : U ≤ w.heap.size) (hl : n = ns.length) (h2 : ns.length ≤ 1000000) : NdIs w w.heap.size (.mk 6 0 ⟨#[]⟩ [] ns) [.int .i64 6, .int .i64 0, .string ⟨#[]⟩, .slice none 0 0, .slice A n c] := by
  obtain ⟨xs, h1, h3⟩ := h
  have hr := own_readsP h1
  rw [hl] at hr
  exact NdIs.lit (ks := []) rfl hl Reads.none_ hr (NdsIn.is (fun b hb => by have := hb.2.1; omega) _ _ h3) (by unfold I64; omega) (by simp) (by simp) h2
/-- the second row's loop -/
def P2 (m : List Int) (wa : World) (i : Nat) (Ab : Option Addr) (cb : Nat) (Aw : Option Addr) (nw cw : Nat) (wr : World) : Prop :=
  nw = (rowsF m i).flatten.length ∧ BInv wa.heap.size wr.heap.size ((rowsF m i).map ndBk) (.slice Ab i cb) (.slice Aw nw cw) i wr ∧ wr.ownsRow wa.heap.size 3 1 (.slice Aw nw cw) nw ((rowsF m i).flatten.map (Value.int .i64)) ∧ Below wa.heap.size wa wr
theorem P2.start (m : List Int) (wa : World) : P2 m wa 0 none 0 none 0 0 wa := ⟨rfl, ⟨[], World.ownsRow_nil _ _ _ _, NdsIn.nil⟩, World.ownsRow_nil _ _ _ _, Below.refl _ _⟩
/-- the loop within it -/
def P3 (m : List Int) (wa wo : World) (i : Nat) (Ab : Option Addr) (cb : Nat) (j : Nat) (Ak : Option Addr) (ck : Nat) (Aw : Option Addr) (nw cw : Nat) (wr : World) : Prop :=
  nw = (rowsF m i).flatten.length + j ∧ BInv wa.heap.size wo.heap.size ((rowsF m i).map ndBk) (.slice Ab i cb) (.slice Aw nw cw) i wr ∧ wr.ownsRow wa.heap.size 3 1 (.slice Aw nw cw) nw (((rowsF m i).flatten ++ partF i j).map (Value.int .i64)) ∧ wr.ownsRow wo.heap.size 25 5 (.slice Ak j ck) j (kC i j) ∧ Below wa.heap.size wa wr ∧ wo.heap.size ≤ wr.heap.size
theorem P3.start {m : List Int} {wa wo : World} {i : Nat} {Ab : Option Addr} {cb : Nat} {Aw : Option Addr} {nw cw : Nat} (h : P2 m wa i Ab cb Aw nw cw wo) : P3 m wa wo i Ab cb 0 none 0 Aw nw cw wo := by
  obtain ⟨h1, h2, h3, h4⟩ := h
  exact ⟨h1, h2, by simpa [partF] using h3, World.ownsRow_nil _ _ _ _, h4, Nat.le_refl _⟩
theorem P3.step {m : List Int} {wa wo : World} {i : Nat} {Ab : Option Addr} {cb : Nat} {j : Nat} {Ak : Option Addr} {ck : Nat} {Aw : Option Addr} {nw cw : Nat} {wr w1 w3 w5 : World} (h : P3 m wa wo i Ab cb j Ak ck Aw nw cw wr) (hvb : ∀ g, (Value.slice Ab i cb).ownBlock = some g → g < wo.heap.size) (hwo : wa.heap.size ≤ wo.heap.size)
    (hb1 : Below wr.heap.size wr w1) {Ak' : Option Addr} {ck' : Nat} (o3 : w3.ownsRow wo.heap.size 25 5 (.slice Ak' (j + 1) ck') (j + 1) (kC i (j + 1))) (g3 : w1.grownBy w3 (Value.slice Ak j ck).ownBlock)
    {Aw' : Option Addr} {cw' : Nat} (o5 : w5.ownsRow wa.heap.size 3 1 (.slice Aw' (nw + 1) cw') (nw + 1) (((rowsF m i).flatten ++ partF i j).map (Value.int .i64) ++ [.int .i64 ((i + j : Nat) : Int)])) (g5 : w3.grownBy w5 (Value.slice Aw nw cw).ownBlock)
    (q5 : (Value.slice Aw' (nw + 1) cw').ownBlock = (Value.slice Aw nw cw).ownBlock ∨ ∃ g, (Value.slice Aw' (nw + 1) cw').ownBlock = some g ∧ w3.heap.size ≤ g) : P3 m wa wo i Ab cb (j + 1) Ak' ck' Aw' (nw + 1) cw' w5 := by
  obtain ⟨h1, h2, h3, h4, h5, h6⟩ := h
  have hb1s := hb1.size
  have g3s := g3.size
  have hgr : wr.grownBy w3 (Value.slice Ak j ck).ownBlock := World.grownBy.trans ⟨hb1.os, hb1.tape, hb1.output, hb1.size, fun k hk _ => hb1.block k hk⟩ g3
  have hkge : ∀ g, (Value.slice Ak j ck).ownBlock = some g → wo.heap.size ≤ g := fun g hg => (own_lt h4 hg).1
  have e1 : BInv wa.heap.size wo.heap.size ((rowsF m i).map ndBk) (.slice Ab i cb) (.slice Aw nw cw) i w3 := h2.far h6 hgr hkge (by
    cases hq : (Value.slice Ab i cb).ownBlock with
    | none => exact .inl rfl
    | some g => refine .inr fun e => ?_; have := hvb g hq; have := hkge g e.symm; omega)
  have e2 := World.ownsRow.kept h3 hgr (own_ne2 h3 h4 (by decide))
  obtain ⟨xs, b1, b2⟩ := e1
  have e3 : BInv wa.heap.size wo.heap.size ((rowsF m i).map ndBk) (.slice Ab i cb) (.slice Aw' (nw + 1) cw') i w5 := BInv.want ⟨xs, b1, b2⟩ (by omega) g5 q5 (own_ne2 b1 e2 (by decide))
  have e4 := World.ownsRow.kept o3 g5 (own_ne2 o3 e2 (by decide))
  have g5s := g5.size
  refine ⟨by omega, e3, ?_, e4, ?_, by omega⟩
  · rw [partF_succ, ← List.append_assoc, List.map_append]; exact o5
  · exact ((h5.trans (hb1.mono h5.size)).grown g3 (by have := h5.size; omega) (fun g hg => by have := hkge g hg; omega)).grown g5 (by have := h5.size; omega) (fun g hg => (own_lt e2 hg).1)
/-- a row of the second row is made -/
theorem P3.close {m : List Int} {wa wo : World} {i : Nat} {Ab : Option Addr} {cb : Nat} {q : Nat} {Ak : Option Addr} {ck : Nat} {Aw : Option Addr} {nw cw : Nat} {wr w2 w4 : World} (h : P3 m wa wo i Ab cb q Ak ck Aw nw cw wr) (hq : q = ((m.getD i 0) % 4).toNat) (hi : i ≤ 1000) (hq2 : q ≤ 1000) (hvb : ∀ g, (Value.slice Ab i cb).ownBlock = some g → g < wo.heap.size) (hwo : wa.heap.size ≤ wo.heap.size)
    (hb1 : Below wr.heap.size wr w2) {g1 g2 : Nat} (k1 : Blk w2 g1 9 #[.string ⟨#[105, 100]⟩]) (k2 : Blk w2 g2 25 #[.int .i64 6, .int .i64 0, .string ⟨#[]⟩, .slice none 0 0, .slice Ak q ck]) (n1 : wr.heap.size ≤ g1) (n2 : wr.heap.size ≤ g2) {xs : List Value} (hx : wr.ownsRow wa.heap.size 25 5 (.slice Ab i cb) i xs) (hxs : NdsIn wr (SX wa.heap.size wo.heap.size (.slice Ab i cb) (.slice Aw nw cw)) ((rowsF m i).map ndBk) xs)
    {Ab' : Option Addr} {cb' : Nat} (o4 : w4.ownsRow wa.heap.size 25 5 (.slice Ab' (i + 1) cb') (i + 1) (xs ++ [.int .i64 7, .int .i64 0, .string ⟨#[]⟩, .slice (some ⟨g1, 0, none⟩) 1 1, .slice (some ⟨g2, 0, none⟩) 1 1])) (g4 : w2.grownBy w4 (Value.slice Ab i cb).ownBlock)
    (q4 : (Value.slice Ab' (i + 1) cb').ownBlock = (Value.slice Ab i cb).ownBlock ∨ ∃ g, (Value.slice Ab' (i + 1) cb').ownBlock = some g ∧ w2.heap.size ≤ g) : P2 m wa (i + 1) Ab' cb' Aw nw cw w4 := by
  obtain ⟨h1, h2, h3, h4, h5, h6⟩ := h
  have hs2 := hb1.size
  have hs4 := g4.size
  have hrow : rowF m i = partF i q := by rw [hq]; rfl
  have hwlt : ∀ g, (Value.slice Aw nw cw).ownBlock = some g → g < wr.heap.size := fun g hg => (own_lt h3 hg).2
  have hkw := own_ne2 h4 h3 (by decide)
  have hfl : (rowsF m (i + 1)).flatten = (rowsF m i).flatten ++ partF i q := by rw [rowsF_succ, hrow]; simp
  have hnode : NdIn w2 (fun b => wo.heap.size ≤ b ∧ b < w2.heap.size ∧ (Value.slice Aw nw cw).ownBlock ≠ some b) (ndBk (partF i q)) [.int .i64 7, .int .i64 0, .string ⟨#[]⟩, .slice (some ⟨g1, 0, none⟩) 1 1, .slice (some ⟨g2, 0, none⟩) 1 1] := by
    refine ndBk_in hi hq2 k1 k2 ?_ ⟨by omega, k1.lt, fun e => by have := hwlt _ e; omega⟩ ⟨by omega, k2.lt, fun e => by have := hwlt _ e; omega⟩
    have hr := own_readsP h4
    refine ⟨hr.1, fun hn => ?_⟩
    obtain ⟨ad, rfl, hb, hc⟩ := hr.2 hn
    refine ⟨ad, rfl, ⟨(own_lt h4 rfl).1, by omega, fun e => ?_⟩, fun j u hu => ?_⟩
    · rcases hkw with hk | hk
      · exact absurd hk (by simp [Value.ownBlock])
      · exact hk (by rw [e]; rfl)
    · rw [hb1.cell (by rw [block_of_add]; exact hb)]
      exact hc j u hu
  have e1 := BInv.push (m := ndBk (partF i q)) hx hxs hwo h6 hb1 hvb hnode g4 o4 q4
  have e2 : w2.ownsRow wa.heap.size 3 1 (.slice Aw nw cw) nw (((rowsF m i).flatten ++ partF i q).map (Value.int .i64)) := own_old h3 hb1
  have e3 := World.ownsRow.kept e2 g4 (own_ne2 e2 (own_old hx hb1) (by decide))
  have hp : (partF i q).length = q := by simp [partF]
  refine ⟨by rw [hfl, List.length_append, hp]; exact h1, ?_, by rw [hfl]; exact e3, ?_⟩
  · rw [rowsF_succ, List.map_append, hrow]
    exact e1.more hs4
  · exact (h5.trans (hb1.mono h5.size)).grown g4 (by have := h5.size; omega) (fun g hg => (own_lt hx hg).1)
/-- cells of an array's kids that are numbers -/
theorem arr_cells {w : World} {B : Nat} {l : List Int} {c0 c1 : Int} {c2 : ByteArray} {c3 : Option Addr} {c4 c5 : Nat} {c6 : Option Addr} {c7 c8 : Nat} (h : NdIs w B (.mk 6 0 ⟨#[]⟩ [] (l.map num4)) [.int .i64 c0, .int .i64 c1, .string c2, .slice c3 c4 c5, .slice c6 c7 c8]) :
    c0 = 6 ∧ c7 = l.length ∧ ∀ i, i < l.length → ∃ b off, c6 = some ⟨b, off, none⟩ ∧ b < B ∧ w.cell? ⟨b, off + i * 5 + 1, none⟩ = some (.int .i64 (l.getD i 0)) := by
  have h2 := NdIs.in_ _ _ h
  unfold NdIn at h2
  obtain ⟨A, ck, A2, c, xs, heq, hk, hx, hn, _⟩ := h2
  cases heq
  refine ⟨rfl, by simp, fun i hi => ?_⟩
  obtain ⟨b, off, m, hA, hb, hm, k0, k1, k2, k3, k4, k5, k6, k7, k8, hnd, e0, e1, _⟩ := RS.nd hx hn (i := i) (by simpa using hi)
  refine ⟨b, off, hA, hb, ?_⟩
  rw [List.getElem?_map, List.getElem?_eq_getElem hi] at hm
  simp at hm
  subst hm
  unfold num4 NdIn at hnd
  obtain ⟨_, _, _, _, _, heq2, _⟩ := hnd
  cases heq2
  rw [e1]
  simp [List.getD, hi]
end Go.Proofs.YtnbfagignbbmfaaDoor
/-! The walk of PointStars. -/
namespace Go.Proofs.YtnbfagignbbmfaaDoor
open Go.RowKit Go.PlainAid
set_option linter.unusedVariables false
set_option linter.unusedSimpArgs false
set_option maxRecDepth 100000
set_option maxHeartbeats 1500000 in
theorem pointStars_walk (A : Option Addr) (l0 c0 : Nat) (z0 : List Int) (A' : Option Addr) (l1 c1 : Nat) (z1 : List Int) (w : World) (r0 : IsRow .i16 w A l0 c0 z0) (r1 : IsRow .u8 w A' l1 c1 z1) (hM : MaxOK w) :
    Calls Tryd.prog 5 #[.slice A l0 c0, .slice A' l1 c1] w fun e w' => e = .returned (.bool true) ∧ Below w.heap.size w w' := by
  obtain ⟨l, hl, hlr, hlc⟩ := rowInt (lo := -32768) (hi := 32767) rfl rfl r0
  obtain ⟨m, hm, hmr, hmc⟩ := rowInt (lo := 0) (hi := 255) rfl rfl r1
  have HAW : Hid (∀ w', Below w.heap.size w w' → Calls Tryd.prog 12 #[] w' (BoolBel true w')) := fun w' h => awake9_any w' (hM.below h)
  have HL := Lib.hid hl
  have HM := Lib.hid hm
  have HLR := Lib.hid hlr
  have HLC := Lib.hid hlc
  have HMR := Lib.hid hmr
  have HMC := Lib.hid hmc
  have HMX := Lib.hid hM
  clear r0 r1 hl hm hlr hlc hmr hmc hM
  by_cases h0 : 100 < l0
  · have d0 : decide ((100 : Int) < (l0 : Int)) = true := by simp; omega
    go_enter Tryd.func5, Tryd.ntmps5
    go_wp2_with (go_at_call 12; refine (HAW.out _ (Below.refl _ _) : Calls _ _ _ _ _).mono ?_; rintro e w2 ⟨rfl, hw⟩)
    go_ret
    exact ⟨rfl, hw⟩
  by_cases h1 : 100 < l1
  · have d0 : decide ((100 : Int) < (l0 : Int)) = false := by simp; omega
    have d1 : decide ((100 : Int) < (l1 : Int)) = true := by simp; omega
    go_enter Tryd.func5, Tryd.ntmps5
    go_wp2_with (go_at_call 12; refine (HAW.out _ (Below.refl _ _) : Calls _ _ _ _ _).mono ?_; rintro e w2 ⟨rfl, hw⟩)
    go_ret
    exact ⟨rfl, hw⟩
  have d0 : decide ((100 : Int) < (l0 : Int)) = false := by simp; omega
  have d1 : decide ((100 : Int) < (l1 : Int)) = false := by simp; omega
  have HI0 : Hid (AInv w.heap.size ((l.take 0).map ndAk) (.slice none 0 0) 0 w ∧ Below w.heap.size w w) := ⟨⟨[], World.ownsRow_nil _ _ _ _, NdsIn.nil⟩, Below.refl _ _⟩
  go_enter Tryd.func5, Tryd.ntmps5
  go_wp2_with fail
  go_loopw [5, 8] (fun t5 t8 wr => ∃ (i : Nat) (Aa : Option Addr) (ca : Nat), i ≤ l0 ∧ t8 = .int .i64 i ∧ t5 = .slice Aa i ca ∧ Hid (AInv w.heap.size ((l.take i).map ndAk) (.slice Aa i ca) i wr ∧ Below w.heap.size w wr)) (fun _ t8 _ => l0 - (intOf t8).toNat)
  case atStart => exact ⟨0, none, 0, by omega, rfl, rfl, HI0⟩
  case round =>
    clear HI0
    obtain ⟨i, Aa, ca, hi, rfl, rfl, hI⟩ := hrel
    obtain ⟨wo, rfl⟩ : ∃ wo : World, wo = wr := ⟨_, rfl⟩
    by_cases hlt : i < l0
    · obtain ⟨b, off, rfl, hb, hcell⟩ := HLC.out i hlt
      obtain ⟨xs, hown, hnds⟩ := hI.out.1
      obtain ⟨z, hz⟩ : ∃ z, z = l.getD i 0 := ⟨_, rfl⟩
      have hzm : -32768 ≤ z ∧ z ≤ 32767 := by
        rw [hz]
        have : i < l.length := by rw [HL.out]; exact hlt
        refine HLR.out _ ?_
        simp [List.getD, this]
      rw [← hz] at hcell
      have hcell2 : wo.cell? ⟨b, off + i, none⟩ = some (.int .i16 z) := (hI.out.2.cell hb).trans hcell
      have HC0 := Lib.hid hcell
      have HB := Lib.hid hI.out.2
      have HOW : Hid (∀ w', Below wo.heap.size wo w' → w'.ownsRow w.heap.size 25 5 (.slice Aa i ca) i xs) := fun w' h => own_old hown h
      have HOW0 := Lib.hid hown
      have HND := Lib.hid hnds
      have HZ := Lib.hid hz
      have hzi : Hid (I64 z) := by show I64 z; unfold I64; omega
      have hws := hI.out.2.size
      have HT : Hid ((l.take (i + 1)).map ndAk = (l.take i).map ndAk ++ [ndAk z]) := by
        show _ = _
        have : i < l.length := by rw [HL.out]; exact hlt
        rw [List.take_succ_eq_append_getElem this, List.map_append, hz]
        simp [List.getD, this]
      have i0 : (0 : Int) ≤ (i : Int) := by omega
      have i1 : (i : Int) < (l0 : Int) := by omega
      obtain ⟨z1, z2⟩ := hzm
      have wz : IntKind.i64.wrap z = z := IntWalk.i64_in _ (by omega)
      have hi5 : i ≤ 1000 := by omega
      clear hown hnds hz hI hcell hb hlt hi h0 h1
      go_wp2_with fail
      go_region_held3 (fun w' => w'.cell? ⟨b, off + i, none⟩ = some (.int .i16 z) ∧ Below w.heap.size w w') (first | exact sOf HC0.out (nextB HB.out (by first | with_reducible exact Below.refl _ _ | ((first | with_reducible refine belA ?_ | with_reducible refine belD ?_); (first | with_reducible exact Below.refl _ _ | ((first | with_reducible refine belA ?_ | with_reducible refine belD ?_); (first | with_reducible exact Below.refl _ _ | ((first | with_reducible refine belA ?_ | with_reducible refine belD ?_); (first | with_reducible exact Below.refl _ _ | ((first | with_reducible refine belA ?_ | with_reducible refine belD ?_); (first | with_reducible exact Below.refl _ _ | ((first | with_reducible refine belA ?_ | with_reducible refine belD ?_); (first | with_reducible exact Below.refl _ _ | ((first | with_reducible refine belA ?_ | with_reducible refine belD ?_); (first | with_reducible exact Below.refl _ _ | ((first | with_reducible refine belA ?_ | with_reducible refine belD ?_); (first | with_reducible exact Below.refl _ _ | ((first | with_reducible refine belA ?_ | with_reducible refine belD ?_); (first | with_reducible exact Below.refl _ _ | ((first | with_reducible refine belA ?_ | with_reducible refine belD ?_); (with_reducible exact Below.refl _ _)))))))))))))))))))) | exact sOf HC0.out HI'.out.2)
        (first
          | (go_at_call 20; refine (num9_any _ _).mono ?_; rintro e w9 ⟨rfl, hw9⟩; subst hw9)
          | (refine step_pushNds2 rfl _ _ rfl w.heap.size (.slice Aa i ca) i xs (by rfl) (HOW.out _ (by first | with_reducible exact Below.refl _ _ | ((first | with_reducible refine belA ?_ | with_reducible refine belD ?_); (first | with_reducible exact Below.refl _ _ | ((first | with_reducible refine belA ?_ | with_reducible refine belD ?_); (first | with_reducible exact Below.refl _ _ | ((first | with_reducible refine belA ?_ | with_reducible refine belD ?_); (first | with_reducible exact Below.refl _ _ | ((first | with_reducible refine belA ?_ | with_reducible refine belD ?_); (first | with_reducible exact Below.refl _ _ | ((first | with_reducible refine belA ?_ | with_reducible refine belD ?_); (first | with_reducible exact Below.refl _ _ | ((first | with_reducible refine belA ?_ | with_reducible refine belD ?_); (first | with_reducible exact Below.refl _ _ | ((first | with_reducible refine belA ?_ | with_reducible refine belD ?_); (first | with_reducible exact Below.refl _ _ | ((first | with_reducible refine belA ?_ | with_reducible refine belD ?_); (first | with_reducible exact Below.refl _ _ | ((first | with_reducible refine belA ?_ | with_reducible refine belD ?_); (with_reducible exact Below.refl _ _)))))))))))))))))))) (wo.heap.size + 5) (some ⟨wo.heap.size + 4, 0, none⟩) 1 1 [.int .i64 7, .int .i64 0, .string ⟨#[]⟩, .slice (some ⟨wo.heap.size, 0, none⟩) 2 2, .slice (some ⟨wo.heap.size + 3, 0, none⟩) 2 2] (Reads.of_blk (t := 25) (by first | with_reducible exact Blk.at_ (by simp) | ((first | with_reducible refine Blk.alloc ?_ _ | with_reducible refine Blk.drew ?_); (first | with_reducible exact Blk.at_ (by simp) | ((first | with_reducible refine Blk.alloc ?_ _ | with_reducible refine Blk.drew ?_); (first | with_reducible exact Blk.at_ (by simp) | ((first | with_reducible refine Blk.alloc ?_ _ | with_reducible refine Blk.drew ?_); (first | with_reducible exact Blk.at_ (by simp) | ((first | with_reducible refine Blk.alloc ?_ _ | with_reducible refine Blk.drew ?_); (first | with_reducible exact Blk.at_ (by simp) | ((first | with_reducible refine Blk.alloc ?_ _ | with_reducible refine Blk.drew ?_); (first | with_reducible exact Blk.at_ (by simp) | ((first | with_reducible refine Blk.alloc ?_ _ | with_reducible refine Blk.drew ?_); (first | with_reducible exact Blk.at_ (by simp) | ((first | with_reducible refine Blk.alloc ?_ _ | with_reducible refine Blk.drew ?_); (first | with_reducible exact Blk.at_ (by simp) | ((first | with_reducible refine Blk.alloc ?_ _ | with_reducible refine Blk.drew ?_); (first | with_reducible exact Blk.at_ (by simp) | ((first | with_reducible refine Blk.alloc ?_ _ | with_reducible refine Blk.drew ?_); (with_reducible exact Blk.at_ (by simp)))))))))))))))))))) (by omega) rfl) (by intro u hu; simp at hu; rcases hu with rfl | rfl | rfl | rfl | rfl <;> rfl) (by rfl) (by omega) (by simp; omega) ?_; intro v' w4 ho4 hg4 hv4; obtain ⟨Av, cv, rfl⟩ := own_form ho4; have HI' : Hid (AInv w.heap.size ((l.take (i + 1)).map ndAk) (.slice Av (i + 1) cv) (i + 1) w4 ∧ Below w.heap.size w w4) := ⟨by rw [HT.out]; exact row_push HOW0.out HND.out hws (by first | with_reducible exact Below.refl _ _ | ((first | with_reducible refine belA ?_ | with_reducible refine belD ?_); (first | with_reducible exact Below.refl _ _ | ((first | with_reducible refine belA ?_ | with_reducible refine belD ?_); (first | with_reducible exact Below.refl _ _ | ((first | with_reducible refine belA ?_ | with_reducible refine belD ?_); (first | with_reducible exact Below.refl _ _ | ((first | with_reducible refine belA ?_ | with_reducible refine belD ?_); (first | with_reducible exact Below.refl _ _ | ((first | with_reducible refine belA ?_ | with_reducible refine belD ?_); (first | with_reducible exact Below.refl _ _ | ((first | with_reducible refine belA ?_ | with_reducible refine belD ?_); (first | with_reducible exact Below.refl _ _ | ((first | with_reducible refine belA ?_ | with_reducible refine belD ?_); (first | with_reducible exact Below.refl _ _ | ((first | with_reducible refine belA ?_ | with_reducible refine belD ?_); (first | with_reducible exact Below.refl _ _ | ((first | with_reducible refine belA ?_ | with_reducible refine belD ?_); (with_reducible exact Below.refl _ _))))))))))))))))))) (ndAk_in hzi.out (by first | with_reducible exact Blk.at_ (by simp) | ((first | with_reducible refine Blk.alloc ?_ _ | with_reducible refine Blk.drew ?_); (first | with_reducible exact Blk.at_ (by simp) | ((first | with_reducible refine Blk.alloc ?_ _ | with_reducible refine Blk.drew ?_); (first | with_reducible exact Blk.at_ (by simp) | ((first | with_reducible refine Blk.alloc ?_ _ | with_reducible refine Blk.drew ?_); (first | with_reducible exact Blk.at_ (by simp) | ((first | with_reducible refine Blk.alloc ?_ _ | with_reducible refine Blk.drew ?_); (first | with_reducible exact Blk.at_ (by simp) | ((first | with_reducible refine Blk.alloc ?_ _ | with_reducible refine Blk.drew ?_); (first | with_reducible exact Blk.at_ (by simp) | ((first | with_reducible refine Blk.alloc ?_ _ | with_reducible refine Blk.drew ?_); (first | with_reducible exact Blk.at_ (by simp) | ((first | with_reducible refine Blk.alloc ?_ _ | with_reducible refine Blk.drew ?_); (first | with_reducible exact Blk.at_ (by simp) | ((first | with_reducible refine Blk.alloc ?_ _ | with_reducible refine Blk.drew ?_); (first | with_reducible exact Blk.at_ (by simp) | ((first | with_reducible refine Blk.alloc ?_ _ | with_reducible refine Blk.drew ?_); (with_reducible exact Blk.at_ (by simp)))))))))))))))))))) (by first | with_reducible exact Blk.at_ (by simp) | ((first | with_reducible refine Blk.alloc ?_ _ | with_reducible refine Blk.drew ?_); (first | with_reducible exact Blk.at_ (by simp) | ((first | with_reducible refine Blk.alloc ?_ _ | with_reducible refine Blk.drew ?_); (first | with_reducible exact Blk.at_ (by simp) | ((first | with_reducible refine Blk.alloc ?_ _ | with_reducible refine Blk.drew ?_); (first | with_reducible exact Blk.at_ (by simp) | ((first | with_reducible refine Blk.alloc ?_ _ | with_reducible refine Blk.drew ?_); (first | with_reducible exact Blk.at_ (by simp) | ((first | with_reducible refine Blk.alloc ?_ _ | with_reducible refine Blk.drew ?_); (first | with_reducible exact Blk.at_ (by simp) | ((first | with_reducible refine Blk.alloc ?_ _ | with_reducible refine Blk.drew ?_); (first | with_reducible exact Blk.at_ (by simp) | ((first | with_reducible refine Blk.alloc ?_ _ | with_reducible refine Blk.drew ?_); (first | with_reducible exact Blk.at_ (by simp) | ((first | with_reducible refine Blk.alloc ?_ _ | with_reducible refine Blk.drew ?_); (first | with_reducible exact Blk.at_ (by simp) | ((first | with_reducible refine Blk.alloc ?_ _ | with_reducible refine Blk.drew ?_); (with_reducible exact Blk.at_ (by simp)))))))))))))))))))) (by constructor <;> (try simp) <;> omega) (by constructor <;> (try simp) <;> omega)) hg4 ho4 hv4, below_grown (nextB HB.out (by first | with_reducible exact Below.refl _ _ | ((first | with_reducible refine belA ?_ | with_reducible refine belD ?_); (first | with_reducible exact Below.refl _ _ | ((first | with_reducible refine belA ?_ | with_reducible refine belD ?_); (first | with_reducible exact Below.refl _ _ | ((first | with_reducible refine belA ?_ | with_reducible refine belD ?_); (first | with_reducible exact Below.refl _ _ | ((first | with_reducible refine belA ?_ | with_reducible refine belD ?_); (first | with_reducible exact Below.refl _ _ | ((first | with_reducible refine belA ?_ | with_reducible refine belD ?_); (first | with_reducible exact Below.refl _ _ | ((first | with_reducible refine belA ?_ | with_reducible refine belD ?_); (first | with_reducible exact Below.refl _ _ | ((first | with_reducible refine belA ?_ | with_reducible refine belD ?_); (first | with_reducible exact Below.refl _ _ | ((first | with_reducible refine belA ?_ | with_reducible refine belD ?_); (first | with_reducible exact Below.refl _ _ | ((first | with_reducible refine belA ?_ | with_reducible refine belD ?_); (with_reducible exact Below.refl _ _)))))))))))))))))))) (Nat.le_refl _) hg4 (fun g hg => (own_lt HOW0.out hg).1)⟩; clear ho4 hg4 hv4)
          | (refine step_pushNds2 rfl _ _ rfl w.heap.size (.slice Aa i ca) i xs (by rfl) (HOW.out _ (by first | with_reducible exact Below.refl _ _ | ((first | with_reducible refine belA ?_ | with_reducible refine belD ?_); (first | with_reducible exact Below.refl _ _ | ((first | with_reducible refine belA ?_ | with_reducible refine belD ?_); (first | with_reducible exact Below.refl _ _ | ((first | with_reducible refine belA ?_ | with_reducible refine belD ?_); (first | with_reducible exact Below.refl _ _ | ((first | with_reducible refine belA ?_ | with_reducible refine belD ?_); (first | with_reducible exact Below.refl _ _ | ((first | with_reducible refine belA ?_ | with_reducible refine belD ?_); (first | with_reducible exact Below.refl _ _ | ((first | with_reducible refine belA ?_ | with_reducible refine belD ?_); (first | with_reducible exact Below.refl _ _ | ((first | with_reducible refine belA ?_ | with_reducible refine belD ?_); (first | with_reducible exact Below.refl _ _ | ((first | with_reducible refine belA ?_ | with_reducible refine belD ?_); (first | with_reducible exact Below.refl _ _ | ((first | with_reducible refine belA ?_ | with_reducible refine belD ?_); (with_reducible exact Below.refl _ _)))))))))))))))))))) (wo.heap.size + 5) (some ⟨wo.heap.size + 4, 0, none⟩) 1 1 [.int .i64 7, .int .i64 0, .string ⟨#[]⟩, .slice (some ⟨wo.heap.size + 1, 0, none⟩) 2 2, .slice (some ⟨wo.heap.size + 3, 0, none⟩) 2 2] (Reads.of_blk (t := 25) (by first | with_reducible exact Blk.at_ (by simp) | ((first | with_reducible refine Blk.alloc ?_ _ | with_reducible refine Blk.drew ?_); (first | with_reducible exact Blk.at_ (by simp) | ((first | with_reducible refine Blk.alloc ?_ _ | with_reducible refine Blk.drew ?_); (first | with_reducible exact Blk.at_ (by simp) | ((first | with_reducible refine Blk.alloc ?_ _ | with_reducible refine Blk.drew ?_); (first | with_reducible exact Blk.at_ (by simp) | ((first | with_reducible refine Blk.alloc ?_ _ | with_reducible refine Blk.drew ?_); (first | with_reducible exact Blk.at_ (by simp) | ((first | with_reducible refine Blk.alloc ?_ _ | with_reducible refine Blk.drew ?_); (first | with_reducible exact Blk.at_ (by simp) | ((first | with_reducible refine Blk.alloc ?_ _ | with_reducible refine Blk.drew ?_); (first | with_reducible exact Blk.at_ (by simp) | ((first | with_reducible refine Blk.alloc ?_ _ | with_reducible refine Blk.drew ?_); (first | with_reducible exact Blk.at_ (by simp) | ((first | with_reducible refine Blk.alloc ?_ _ | with_reducible refine Blk.drew ?_); (first | with_reducible exact Blk.at_ (by simp) | ((first | with_reducible refine Blk.alloc ?_ _ | with_reducible refine Blk.drew ?_); (with_reducible exact Blk.at_ (by simp)))))))))))))))))))) (by omega) rfl) (by intro u hu; simp at hu; rcases hu with rfl | rfl | rfl | rfl | rfl <;> rfl) (by rfl) (by omega) (by simp; omega) ?_; intro v' w4 ho4 hg4 hv4; obtain ⟨Av, cv, rfl⟩ := own_form ho4; have HI' : Hid (AInv w.heap.size ((l.take (i + 1)).map ndAk) (.slice Av (i + 1) cv) (i + 1) w4 ∧ Below w.heap.size w w4) := ⟨by rw [HT.out]; exact row_push HOW0.out HND.out hws (by first | with_reducible exact Below.refl _ _ | ((first | with_reducible refine belA ?_ | with_reducible refine belD ?_); (first | with_reducible exact Below.refl _ _ | ((first | with_reducible refine belA ?_ | with_reducible refine belD ?_); (first | with_reducible exact Below.refl _ _ | ((first | with_reducible refine belA ?_ | with_reducible refine belD ?_); (first | with_reducible exact Below.refl _ _ | ((first | with_reducible refine belA ?_ | with_reducible refine belD ?_); (first | with_reducible exact Below.refl _ _ | ((first | with_reducible refine belA ?_ | with_reducible refine belD ?_); (first | with_reducible exact Below.refl _ _ | ((first | with_reducible refine belA ?_ | with_reducible refine belD ?_); (first | with_reducible exact Below.refl _ _ | ((first | with_reducible refine belA ?_ | with_reducible refine belD ?_); (first | with_reducible exact Below.refl _ _ | ((first | with_reducible refine belA ?_ | with_reducible refine belD ?_); (first | with_reducible exact Below.refl _ _ | ((first | with_reducible refine belA ?_ | with_reducible refine belD ?_); (with_reducible exact Below.refl _ _))))))))))))))))))) (ndAk_in hzi.out (by first | with_reducible exact Blk.at_ (by simp) | ((first | with_reducible refine Blk.alloc ?_ _ | with_reducible refine Blk.drew ?_); (first | with_reducible exact Blk.at_ (by simp) | ((first | with_reducible refine Blk.alloc ?_ _ | with_reducible refine Blk.drew ?_); (first | with_reducible exact Blk.at_ (by simp) | ((first | with_reducible refine Blk.alloc ?_ _ | with_reducible refine Blk.drew ?_); (first | with_reducible exact Blk.at_ (by simp) | ((first | with_reducible refine Blk.alloc ?_ _ | with_reducible refine Blk.drew ?_); (first | with_reducible exact Blk.at_ (by simp) | ((first | with_reducible refine Blk.alloc ?_ _ | with_reducible refine Blk.drew ?_); (first | with_reducible exact Blk.at_ (by simp) | ((first | with_reducible refine Blk.alloc ?_ _ | with_reducible refine Blk.drew ?_); (first | with_reducible exact Blk.at_ (by simp) | ((first | with_reducible refine Blk.alloc ?_ _ | with_reducible refine Blk.drew ?_); (first | with_reducible exact Blk.at_ (by simp) | ((first | with_reducible refine Blk.alloc ?_ _ | with_reducible refine Blk.drew ?_); (first | with_reducible exact Blk.at_ (by simp) | ((first | with_reducible refine Blk.alloc ?_ _ | with_reducible refine Blk.drew ?_); (with_reducible exact Blk.at_ (by simp)))))))))))))))))))) (by first | with_reducible exact Blk.at_ (by simp) | ((first | with_reducible refine Blk.alloc ?_ _ | with_reducible refine Blk.drew ?_); (first | with_reducible exact Blk.at_ (by simp) | ((first | with_reducible refine Blk.alloc ?_ _ | with_reducible refine Blk.drew ?_); (first | with_reducible exact Blk.at_ (by simp) | ((first | with_reducible refine Blk.alloc ?_ _ | with_reducible refine Blk.drew ?_); (first | with_reducible exact Blk.at_ (by simp) | ((first | with_reducible refine Blk.alloc ?_ _ | with_reducible refine Blk.drew ?_); (first | with_reducible exact Blk.at_ (by simp) | ((first | with_reducible refine Blk.alloc ?_ _ | with_reducible refine Blk.drew ?_); (first | with_reducible exact Blk.at_ (by simp) | ((first | with_reducible refine Blk.alloc ?_ _ | with_reducible refine Blk.drew ?_); (first | with_reducible exact Blk.at_ (by simp) | ((first | with_reducible refine Blk.alloc ?_ _ | with_reducible refine Blk.drew ?_); (first | with_reducible exact Blk.at_ (by simp) | ((first | with_reducible refine Blk.alloc ?_ _ | with_reducible refine Blk.drew ?_); (first | with_reducible exact Blk.at_ (by simp) | ((first | with_reducible refine Blk.alloc ?_ _ | with_reducible refine Blk.drew ?_); (with_reducible exact Blk.at_ (by simp)))))))))))))))))))) (by constructor <;> (try simp) <;> omega) (by constructor <;> (try simp) <;> omega)) hg4 ho4 hv4, below_grown (nextB HB.out (by first | with_reducible exact Below.refl _ _ | ((first | with_reducible refine belA ?_ | with_reducible refine belD ?_); (first | with_reducible exact Below.refl _ _ | ((first | with_reducible refine belA ?_ | with_reducible refine belD ?_); (first | with_reducible exact Below.refl _ _ | ((first | with_reducible refine belA ?_ | with_reducible refine belD ?_); (first | with_reducible exact Below.refl _ _ | ((first | with_reducible refine belA ?_ | with_reducible refine belD ?_); (first | with_reducible exact Below.refl _ _ | ((first | with_reducible refine belA ?_ | with_reducible refine belD ?_); (first | with_reducible exact Below.refl _ _ | ((first | with_reducible refine belA ?_ | with_reducible refine belD ?_); (first | with_reducible exact Below.refl _ _ | ((first | with_reducible refine belA ?_ | with_reducible refine belD ?_); (first | with_reducible exact Below.refl _ _ | ((first | with_reducible refine belA ?_ | with_reducible refine belD ?_); (first | with_reducible exact Below.refl _ _ | ((first | with_reducible refine belA ?_ | with_reducible refine belD ?_); (with_reducible exact Below.refl _ _)))))))))))))))))))) (Nat.le_refl _) hg4 (fun g hg => (own_lt HOW0.out hg).1)⟩; clear ho4 hg4 hv4)
          | (refine step_pushNds2 rfl _ _ rfl w.heap.size (.slice Aa i ca) i xs (by rfl) (HOW.out _ (by first | with_reducible exact Below.refl _ _ | ((first | with_reducible refine belA ?_ | with_reducible refine belD ?_); (first | with_reducible exact Below.refl _ _ | ((first | with_reducible refine belA ?_ | with_reducible refine belD ?_); (first | with_reducible exact Below.refl _ _ | ((first | with_reducible refine belA ?_ | with_reducible refine belD ?_); (first | with_reducible exact Below.refl _ _ | ((first | with_reducible refine belA ?_ | with_reducible refine belD ?_); (first | with_reducible exact Below.refl _ _ | ((first | with_reducible refine belA ?_ | with_reducible refine belD ?_); (first | with_reducible exact Below.refl _ _ | ((first | with_reducible refine belA ?_ | with_reducible refine belD ?_); (first | with_reducible exact Below.refl _ _ | ((first | with_reducible refine belA ?_ | with_reducible refine belD ?_); (first | with_reducible exact Below.refl _ _ | ((first | with_reducible refine belA ?_ | with_reducible refine belD ?_); (first | with_reducible exact Below.refl _ _ | ((first | with_reducible refine belA ?_ | with_reducible refine belD ?_); (with_reducible exact Below.refl _ _)))))))))))))))))))) (wo.heap.size + 5) (some ⟨wo.heap.size + 4, 0, none⟩) 1 1 [.int .i64 7, .int .i64 0, .string ⟨#[]⟩, .slice (some ⟨wo.heap.size + 2, 0, none⟩) 2 2, .slice (some ⟨wo.heap.size + 3, 0, none⟩) 2 2] (Reads.of_blk (t := 25) (by first | with_reducible exact Blk.at_ (by simp) | ((first | with_reducible refine Blk.alloc ?_ _ | with_reducible refine Blk.drew ?_); (first | with_reducible exact Blk.at_ (by simp) | ((first | with_reducible refine Blk.alloc ?_ _ | with_reducible refine Blk.drew ?_); (first | with_reducible exact Blk.at_ (by simp) | ((first | with_reducible refine Blk.alloc ?_ _ | with_reducible refine Blk.drew ?_); (first | with_reducible exact Blk.at_ (by simp) | ((first | with_reducible refine Blk.alloc ?_ _ | with_reducible refine Blk.drew ?_); (first | with_reducible exact Blk.at_ (by simp) | ((first | with_reducible refine Blk.alloc ?_ _ | with_reducible refine Blk.drew ?_); (first | with_reducible exact Blk.at_ (by simp) | ((first | with_reducible refine Blk.alloc ?_ _ | with_reducible refine Blk.drew ?_); (first | with_reducible exact Blk.at_ (by simp) | ((first | with_reducible refine Blk.alloc ?_ _ | with_reducible refine Blk.drew ?_); (first | with_reducible exact Blk.at_ (by simp) | ((first | with_reducible refine Blk.alloc ?_ _ | with_reducible refine Blk.drew ?_); (first | with_reducible exact Blk.at_ (by simp) | ((first | with_reducible refine Blk.alloc ?_ _ | with_reducible refine Blk.drew ?_); (with_reducible exact Blk.at_ (by simp)))))))))))))))))))) (by omega) rfl) (by intro u hu; simp at hu; rcases hu with rfl | rfl | rfl | rfl | rfl <;> rfl) (by rfl) (by omega) (by simp; omega) ?_; intro v' w4 ho4 hg4 hv4; obtain ⟨Av, cv, rfl⟩ := own_form ho4; have HI' : Hid (AInv w.heap.size ((l.take (i + 1)).map ndAk) (.slice Av (i + 1) cv) (i + 1) w4 ∧ Below w.heap.size w w4) := ⟨by rw [HT.out]; exact row_push HOW0.out HND.out hws (by first | with_reducible exact Below.refl _ _ | ((first | with_reducible refine belA ?_ | with_reducible refine belD ?_); (first | with_reducible exact Below.refl _ _ | ((first | with_reducible refine belA ?_ | with_reducible refine belD ?_); (first | with_reducible exact Below.refl _ _ | ((first | with_reducible refine belA ?_ | with_reducible refine belD ?_); (first | with_reducible exact Below.refl _ _ | ((first | with_reducible refine belA ?_ | with_reducible refine belD ?_); (first | with_reducible exact Below.refl _ _ | ((first | with_reducible refine belA ?_ | with_reducible refine belD ?_); (first | with_reducible exact Below.refl _ _ | ((first | with_reducible refine belA ?_ | with_reducible refine belD ?_); (first | with_reducible exact Below.refl _ _ | ((first | with_reducible refine belA ?_ | with_reducible refine belD ?_); (first | with_reducible exact Below.refl _ _ | ((first | with_reducible refine belA ?_ | with_reducible refine belD ?_); (first | with_reducible exact Below.refl _ _ | ((first | with_reducible refine belA ?_ | with_reducible refine belD ?_); (with_reducible exact Below.refl _ _))))))))))))))))))) (ndAk_in hzi.out (by first | with_reducible exact Blk.at_ (by simp) | ((first | with_reducible refine Blk.alloc ?_ _ | with_reducible refine Blk.drew ?_); (first | with_reducible exact Blk.at_ (by simp) | ((first | with_reducible refine Blk.alloc ?_ _ | with_reducible refine Blk.drew ?_); (first | with_reducible exact Blk.at_ (by simp) | ((first | with_reducible refine Blk.alloc ?_ _ | with_reducible refine Blk.drew ?_); (first | with_reducible exact Blk.at_ (by simp) | ((first | with_reducible refine Blk.alloc ?_ _ | with_reducible refine Blk.drew ?_); (first | with_reducible exact Blk.at_ (by simp) | ((first | with_reducible refine Blk.alloc ?_ _ | with_reducible refine Blk.drew ?_); (first | with_reducible exact Blk.at_ (by simp) | ((first | with_reducible refine Blk.alloc ?_ _ | with_reducible refine Blk.drew ?_); (first | with_reducible exact Blk.at_ (by simp) | ((first | with_reducible refine Blk.alloc ?_ _ | with_reducible refine Blk.drew ?_); (first | with_reducible exact Blk.at_ (by simp) | ((first | with_reducible refine Blk.alloc ?_ _ | with_reducible refine Blk.drew ?_); (first | with_reducible exact Blk.at_ (by simp) | ((first | with_reducible refine Blk.alloc ?_ _ | with_reducible refine Blk.drew ?_); (with_reducible exact Blk.at_ (by simp)))))))))))))))))))) (by first | with_reducible exact Blk.at_ (by simp) | ((first | with_reducible refine Blk.alloc ?_ _ | with_reducible refine Blk.drew ?_); (first | with_reducible exact Blk.at_ (by simp) | ((first | with_reducible refine Blk.alloc ?_ _ | with_reducible refine Blk.drew ?_); (first | with_reducible exact Blk.at_ (by simp) | ((first | with_reducible refine Blk.alloc ?_ _ | with_reducible refine Blk.drew ?_); (first | with_reducible exact Blk.at_ (by simp) | ((first | with_reducible refine Blk.alloc ?_ _ | with_reducible refine Blk.drew ?_); (first | with_reducible exact Blk.at_ (by simp) | ((first | with_reducible refine Blk.alloc ?_ _ | with_reducible refine Blk.drew ?_); (first | with_reducible exact Blk.at_ (by simp) | ((first | with_reducible refine Blk.alloc ?_ _ | with_reducible refine Blk.drew ?_); (first | with_reducible exact Blk.at_ (by simp) | ((first | with_reducible refine Blk.alloc ?_ _ | with_reducible refine Blk.drew ?_); (first | with_reducible exact Blk.at_ (by simp) | ((first | with_reducible refine Blk.alloc ?_ _ | with_reducible refine Blk.drew ?_); (first | with_reducible exact Blk.at_ (by simp) | ((first | with_reducible refine Blk.alloc ?_ _ | with_reducible refine Blk.drew ?_); (with_reducible exact Blk.at_ (by simp)))))))))))))))))))) (by constructor <;> (try simp) <;> omega) (by constructor <;> (try simp) <;> omega)) hg4 ho4 hv4, below_grown (nextB HB.out (by first | with_reducible exact Below.refl _ _ | ((first | with_reducible refine belA ?_ | with_reducible refine belD ?_); (first | with_reducible exact Below.refl _ _ | ((first | with_reducible refine belA ?_ | with_reducible refine belD ?_); (first | with_reducible exact Below.refl _ _ | ((first | with_reducible refine belA ?_ | with_reducible refine belD ?_); (first | with_reducible exact Below.refl _ _ | ((first | with_reducible refine belA ?_ | with_reducible refine belD ?_); (first | with_reducible exact Below.refl _ _ | ((first | with_reducible refine belA ?_ | with_reducible refine belD ?_); (first | with_reducible exact Below.refl _ _ | ((first | with_reducible refine belA ?_ | with_reducible refine belD ?_); (first | with_reducible exact Below.refl _ _ | ((first | with_reducible refine belA ?_ | with_reducible refine belD ?_); (first | with_reducible exact Below.refl _ _ | ((first | with_reducible refine belA ?_ | with_reducible refine belD ?_); (first | with_reducible exact Below.refl _ _ | ((first | with_reducible refine belA ?_ | with_reducible refine belD ?_); (with_reducible exact Below.refl _ _)))))))))))))))))))) (Nat.le_refl _) hg4 (fun g hg => (own_lt HOW0.out hg).1)⟩; clear ho4 hg4 hv4)
          | (refine step_pushNds2 rfl _ _ rfl w.heap.size (.slice Aa i ca) i xs (by rfl) (HOW.out _ (by first | with_reducible exact Below.refl _ _ | ((first | with_reducible refine belA ?_ | with_reducible refine belD ?_); (first | with_reducible exact Below.refl _ _ | ((first | with_reducible refine belA ?_ | with_reducible refine belD ?_); (first | with_reducible exact Below.refl _ _ | ((first | with_reducible refine belA ?_ | with_reducible refine belD ?_); (first | with_reducible exact Below.refl _ _ | ((first | with_reducible refine belA ?_ | with_reducible refine belD ?_); (first | with_reducible exact Below.refl _ _ | ((first | with_reducible refine belA ?_ | with_reducible refine belD ?_); (first | with_reducible exact Below.refl _ _ | ((first | with_reducible refine belA ?_ | with_reducible refine belD ?_); (first | with_reducible exact Below.refl _ _ | ((first | with_reducible refine belA ?_ | with_reducible refine belD ?_); (first | with_reducible exact Below.refl _ _ | ((first | with_reducible refine belA ?_ | with_reducible refine belD ?_); (first | with_reducible exact Below.refl _ _ | ((first | with_reducible refine belA ?_ | with_reducible refine belD ?_); (with_reducible exact Below.refl _ _)))))))))))))))))))) (wo.heap.size + 5) (some ⟨wo.heap.size + 4, 0, none⟩) 1 1 [.int .i64 7, .int .i64 0, .string ⟨#[]⟩, .slice (some ⟨wo.heap.size + 3, 0, none⟩) 2 2, .slice (some ⟨wo.heap.size + 2, 0, none⟩) 2 2] (Reads.of_blk (t := 25) (by first | with_reducible exact Blk.at_ (by simp) | ((first | with_reducible refine Blk.alloc ?_ _ | with_reducible refine Blk.drew ?_); (first | with_reducible exact Blk.at_ (by simp) | ((first | with_reducible refine Blk.alloc ?_ _ | with_reducible refine Blk.drew ?_); (first | with_reducible exact Blk.at_ (by simp) | ((first | with_reducible refine Blk.alloc ?_ _ | with_reducible refine Blk.drew ?_); (first | with_reducible exact Blk.at_ (by simp) | ((first | with_reducible refine Blk.alloc ?_ _ | with_reducible refine Blk.drew ?_); (first | with_reducible exact Blk.at_ (by simp) | ((first | with_reducible refine Blk.alloc ?_ _ | with_reducible refine Blk.drew ?_); (first | with_reducible exact Blk.at_ (by simp) | ((first | with_reducible refine Blk.alloc ?_ _ | with_reducible refine Blk.drew ?_); (first | with_reducible exact Blk.at_ (by simp) | ((first | with_reducible refine Blk.alloc ?_ _ | with_reducible refine Blk.drew ?_); (first | with_reducible exact Blk.at_ (by simp) | ((first | with_reducible refine Blk.alloc ?_ _ | with_reducible refine Blk.drew ?_); (first | with_reducible exact Blk.at_ (by simp) | ((first | with_reducible refine Blk.alloc ?_ _ | with_reducible refine Blk.drew ?_); (with_reducible exact Blk.at_ (by simp)))))))))))))))))))) (by omega) rfl) (by intro u hu; simp at hu; rcases hu with rfl | rfl | rfl | rfl | rfl <;> rfl) (by rfl) (by omega) (by simp; omega) ?_; intro v' w4 ho4 hg4 hv4; obtain ⟨Av, cv, rfl⟩ := own_form ho4; have HI' : Hid (AInv w.heap.size ((l.take (i + 1)).map ndAk) (.slice Av (i + 1) cv) (i + 1) w4 ∧ Below w.heap.size w w4) := ⟨by rw [HT.out]; exact row_push HOW0.out HND.out hws (by first | with_reducible exact Below.refl _ _ | ((first | with_reducible refine belA ?_ | with_reducible refine belD ?_); (first | with_reducible exact Below.refl _ _ | ((first | with_reducible refine belA ?_ | with_reducible refine belD ?_); (first | with_reducible exact Below.refl _ _ | ((first | with_reducible refine belA ?_ | with_reducible refine belD ?_); (first | with_reducible exact Below.refl _ _ | ((first | with_reducible refine belA ?_ | with_reducible refine belD ?_); (first | with_reducible exact Below.refl _ _ | ((first | with_reducible refine belA ?_ | with_reducible refine belD ?_); (first | with_reducible exact Below.refl _ _ | ((first | with_reducible refine belA ?_ | with_reducible refine belD ?_); (first | with_reducible exact Below.refl _ _ | ((first | with_reducible refine belA ?_ | with_reducible refine belD ?_); (first | with_reducible exact Below.refl _ _ | ((first | with_reducible refine belA ?_ | with_reducible refine belD ?_); (first | with_reducible exact Below.refl _ _ | ((first | with_reducible refine belA ?_ | with_reducible refine belD ?_); (with_reducible exact Below.refl _ _))))))))))))))))))) (ndAk_in hzi.out (by first | with_reducible exact Blk.at_ (by simp) | ((first | with_reducible refine Blk.alloc ?_ _ | with_reducible refine Blk.drew ?_); (first | with_reducible exact Blk.at_ (by simp) | ((first | with_reducible refine Blk.alloc ?_ _ | with_reducible refine Blk.drew ?_); (first | with_reducible exact Blk.at_ (by simp) | ((first | with_reducible refine Blk.alloc ?_ _ | with_reducible refine Blk.drew ?_); (first | with_reducible exact Blk.at_ (by simp) | ((first | with_reducible refine Blk.alloc ?_ _ | with_reducible refine Blk.drew ?_); (first | with_reducible exact Blk.at_ (by simp) | ((first | with_reducible refine Blk.alloc ?_ _ | with_reducible refine Blk.drew ?_); (first | with_reducible exact Blk.at_ (by simp) | ((first | with_reducible refine Blk.alloc ?_ _ | with_reducible refine Blk.drew ?_); (first | with_reducible exact Blk.at_ (by simp) | ((first | with_reducible refine Blk.alloc ?_ _ | with_reducible refine Blk.drew ?_); (first | with_reducible exact Blk.at_ (by simp) | ((first | with_reducible refine Blk.alloc ?_ _ | with_reducible refine Blk.drew ?_); (first | with_reducible exact Blk.at_ (by simp) | ((first | with_reducible refine Blk.alloc ?_ _ | with_reducible refine Blk.drew ?_); (with_reducible exact Blk.at_ (by simp)))))))))))))))))))) (by first | with_reducible exact Blk.at_ (by simp) | ((first | with_reducible refine Blk.alloc ?_ _ | with_reducible refine Blk.drew ?_); (first | with_reducible exact Blk.at_ (by simp) | ((first | with_reducible refine Blk.alloc ?_ _ | with_reducible refine Blk.drew ?_); (first | with_reducible exact Blk.at_ (by simp) | ((first | with_reducible refine Blk.alloc ?_ _ | with_reducible refine Blk.drew ?_); (first | with_reducible exact Blk.at_ (by simp) | ((first | with_reducible refine Blk.alloc ?_ _ | with_reducible refine Blk.drew ?_); (first | with_reducible exact Blk.at_ (by simp) | ((first | with_reducible refine Blk.alloc ?_ _ | with_reducible refine Blk.drew ?_); (first | with_reducible exact Blk.at_ (by simp) | ((first | with_reducible refine Blk.alloc ?_ _ | with_reducible refine Blk.drew ?_); (first | with_reducible exact Blk.at_ (by simp) | ((first | with_reducible refine Blk.alloc ?_ _ | with_reducible refine Blk.drew ?_); (first | with_reducible exact Blk.at_ (by simp) | ((first | with_reducible refine Blk.alloc ?_ _ | with_reducible refine Blk.drew ?_); (first | with_reducible exact Blk.at_ (by simp) | ((first | with_reducible refine Blk.alloc ?_ _ | with_reducible refine Blk.drew ?_); (with_reducible exact Blk.at_ (by simp)))))))))))))))))))) (by constructor <;> (try simp) <;> omega) (by constructor <;> (try simp) <;> omega)) hg4 ho4 hv4, below_grown (nextB HB.out (by first | with_reducible exact Below.refl _ _ | ((first | with_reducible refine belA ?_ | with_reducible refine belD ?_); (first | with_reducible exact Below.refl _ _ | ((first | with_reducible refine belA ?_ | with_reducible refine belD ?_); (first | with_reducible exact Below.refl _ _ | ((first | with_reducible refine belA ?_ | with_reducible refine belD ?_); (first | with_reducible exact Below.refl _ _ | ((first | with_reducible refine belA ?_ | with_reducible refine belD ?_); (first | with_reducible exact Below.refl _ _ | ((first | with_reducible refine belA ?_ | with_reducible refine belD ?_); (first | with_reducible exact Below.refl _ _ | ((first | with_reducible refine belA ?_ | with_reducible refine belD ?_); (first | with_reducible exact Below.refl _ _ | ((first | with_reducible refine belA ?_ | with_reducible refine belD ?_); (first | with_reducible exact Below.refl _ _ | ((first | with_reducible refine belA ?_ | with_reducible refine belD ?_); (first | with_reducible exact Below.refl _ _ | ((first | with_reducible refine belA ?_ | with_reducible refine belD ?_); (with_reducible exact Below.refl _ _)))))))))))))))))))) (Nat.le_refl _) hg4 (fun g hg => (own_lt HOW0.out hg).1)⟩; clear ho4 hg4 hv4))
      all_goals
        go_wp2_with fail
        go_roundw
        case rel => exact ⟨i + 1, Av, cv, by omega, by go_num, rfl, HI'⟩
        case measure => simp [intOf]; omega
    · obtain rfl : i = l0 := by omega
      have HA : Hid (∀ w', Below wo.heap.size wo w' → NdIs w' wo.heap.size (ndA l) [.int .i64 6, .int .i64 0, .string ⟨#[]⟩, .slice none 0 0, .slice Aa i ca]) := fun w' h => by
        have h1 := hI.out.1
        rw [List.take_of_length_le (by rw [HL.out]; exact Nat.le_refl _)] at h1
        exact (h1.arr (by rw [List.length_map, HL.out]) (by rw [List.length_map, HL.out]; omega)).below h
      have HB := Lib.hid hI.out.2
      have HI2 : Hid (P2 m wo 0 none 0 none 0 0 wo) := P2.start m wo
      have HAO : Hid (pointN (ndA l) pathSI = (some (.mk 6 0 ⟨#[]⟩ [] (l.map num4)), 0)) := starsA l (fun n hn => HLR.out n hn)
      have HAS : Hid (sizeOk (ndA l) ∧ (ndA l).count ≤ 1000000) := ndA_size l (fun n hn => HLR.out n hn) (by rw [HL.out]; omega)
      obtain ⟨wa, rfl⟩ : ∃ wa : World, wa = wo := ⟨_, rfl⟩
      clear hI hi hlt
      go_wp2_with fail
      go_loopw [6, 7, 9] (fun t6 t7 t9 wr => ∃ (i : Nat) (Ab : Option Addr) (cb : Nat) (Aw : Option Addr) (nw cw : Nat), i ≤ l1 ∧ t9 = .int .i64 i ∧ t6 = .slice Ab i cb ∧ t7 = .slice Aw nw cw ∧ Hid (P2 m wa i Ab cb Aw nw cw wr)) (fun _ _ t9 _ => l1 - (intOf t9).toNat)
      case atStart => exact ⟨0, none, 0, none, 0, 0, by omega, rfl, rfl, rfl, HI2⟩
      case round =>
        clear HI2
        obtain ⟨k, Ab, cb, Aw, nw, cw, hk, rfl, rfl, rfl, hI⟩ := hrel
        obtain ⟨wo, rfl⟩ : ∃ wo : World, wo = wr := ⟨_, rfl⟩
        by_cases hlt : k < l1
        · obtain ⟨bm, om, rfl, hbm, hcm⟩ := HMC.out k hlt
          obtain ⟨v, hv⟩ : ∃ v, v = m.getD k 0 := ⟨_, rfl⟩
          have hvr : 0 ≤ v ∧ v ≤ 255 := by
            rw [hv]
            have : k < m.length := by rw [HM.out]; exact hlt
            refine HMR.out _ ?_
            simp [List.getD, this]
          rw [← hv] at hcm
          have HCM : Hid (∀ w', Below wa.heap.size wa w' → w'.cell? ⟨bm, om + k, none⟩ = some (.int .u8 v)) := fun w' h => (h.cell (by have := HB.out.size; show bm < _; omega)).trans ((HB.out.cell hbm).trans hcm)
          obtain ⟨q, hq⟩ : ∃ q : Nat, (q : Int) = v % 4 := ⟨(v % 4).toNat, by omega⟩
          have HQ : Hid (q = ((m.getD k 0) % 4).toNat) := by show _ = _; rw [← hv]; omega
          have HI3 : Hid (P3 m wa wo k Ab cb 0 none 0 Aw nw cw wo) := P3.start hI.out
          have HVB : Hid (∀ g, (Value.slice Ab k cb).ownBlock = some g → g < wo.heap.size) := fun g hg => by
            obtain ⟨xs, h1, _⟩ := hI.out.2.1
            exact (own_lt h1 hg).2
          have hwo : wa.heap.size ≤ wo.heap.size := hI.out.2.2.2.size
          have q4 : q ≤ 3 := by omega
          obtain ⟨v1, v2⟩ := hvr
          have nv : IntKind.i64.wrap v = v := IntWalk.i64_in _ (by omega)
          have tv : v.tmod 4 = (q : Int) := by rw [hq]; exact Int.tmod_eq_emod_of_nonneg v1
          have ev : v % 4 = (q : Int) := hq.symm
          have k0 : (0 : Int) ≤ (k : Int) := by omega
          have k1 : (k : Int) < (l1 : Int) := by omega
          have k5 : k ≤ 1000 := by omega
          have n5 : nw ≤ 1000 := by
            have h5 := hI.out.1
            have := rowsF_len m k (by omega)
            omega
          clear hv hcm hI hbm hlt hq
          go_wp2_with fail
          go_loopw [7, 10, 11] (fun t7 t10 t11 wr => ∃ (j : Nat) (Ak : Option Addr) (ck : Nat) (Aw : Option Addr) (nj cw : Nat), j ≤ q ∧ nj = nw + j ∧ t11 = .int .i64 j ∧ t10 = .slice Ak j ck ∧ t7 = .slice Aw nj cw ∧ Hid (P3 m wa wo k Ab cb j Ak ck Aw nj cw wr)) (fun _ _ t11 _ => q - (intOf t11).toNat)
          case atStart => exact ⟨0, none, 0, Aw, nw, cw, by omega, rfl, rfl, rfl, rfl, HI3⟩
          case round =>
            clear HI3
            obtain ⟨j, Ak, ck, Aw2, nj, cw2, hj, hnj, rfl, rfl, rfl, hI⟩ := hrel
            obtain ⟨wp, rfl⟩ : ∃ wp : World, wp = wr := ⟨_, rfl⟩
            have cm := HCM.out _ hI.out.2.2.2.2.1
            have hwp : wo.heap.size ≤ wp.heap.size := hI.out.2.2.2.2.2
            have HNJ := Lib.hid hnj
            have n6 : nj ≤ 1100 := by omega
            clear hnj
            by_cases hlt : j < q
            · have HKO := Lib.hid hI.out.2.2.2.1
              have HWO := Lib.hid hI.out.2.2.1
              have j0 : (0 : Int) ≤ (j : Int) := by omega
              have jlt : (j : Int) < (q : Int) := by omega
              have HP := Lib.hid hI.out
              clear hI
              go_wp2_with (first
                | (go_at_call 20; refine (num9_any _ _).mono ?_; rintro e w9 ⟨rfl, hw9⟩; subst hw9)
                | (at_builtin; refine wpList_pushNd (wp.alloc (.cells #[.int .i64 4, .int .i64 ((k : Int) + (j : Int)), .string ⟨#[]⟩, .slice none 0 0, .slice none 0 0] 25)) rfl _ _ rfl wo.heap.size (.slice Ak j ck) j (kC k j) rfl (World.ownsRow.alloc HKO.out _) 4 ((k : Int) + (j : Int)) ⟨#[]⟩ none 0 0 none 0 0 (by simp [Act.eval]) (by omega) (by simp; omega) ?_; intro v3 w3 o3 g3 q3; obtain ⟨Ak', ck', rfl⟩ := own_form o3; have O3 := Lib.hid o3; have G3 := Lib.hid g3; have HW3 := Lib.hid (World.ownsRow.kept (World.ownsRow.alloc HWO.out _) g3 (own_ne2 HWO.out HKO.out (by decide))); have hw3 : wp.heap.size ≤ w3.heap.size := Nat.le_trans (by simp) g3.size; clear o3 g3 q3)
                | (at_builtin; refine wpList_pushInt w3 rfl _ _ rfl wa.heap.size (.slice Aw2 nj cw2) nj _ rfl HW3.out ((k : Int) + (j : Int)) rfl (by omega) (by omega) ?_; intro v5 w5 o5 g5 q5; obtain ⟨Aw5, cw5, rfl⟩ := own_form o5; have O5 := Lib.hid o5; have G5 := Lib.hid g5; have Q5 := Lib.hid q5; clear o5 g5 q5))
              have HP5 : Hid (P3 m wa wo k Ab cb (j + 1) Ak' ck' Aw5 (nj + 1) cw5 w5) := P3.step HP.out HVB.out hwo (belA (Below.refl _ _)) (by rw [kC_succ]; exact O3.out) G3.out O5.out G5.out Q5.out
              go_roundw
              case rel => exact ⟨j + 1, Ak', ck', Aw5, nj + 1, cw5, by omega, by have := HNJ.out; omega, by go_num, rfl, rfl, HP5⟩
              case measure => simp [intOf]; omega
            · obtain rfl : j = q := by omega
              obtain ⟨xs, hx, hxs⟩ := hI.out.2.1
              have HX := Lib.hid hx
              have HXS := Lib.hid hxs
              have HP := Lib.hid hI.out
              have HK1 : Hid (Blk ((wp.alloc (.cells #[.string ⟨#[105, 100]⟩] 9)).alloc (.cells #[.int .i64 6, .int .i64 0, .string ⟨#[]⟩, .slice none 0 0, .slice Ak j ck] 25)) wp.heap.size 9 #[.string ⟨#[105, 100]⟩]) := (Blk.new wp 9 #[.string ⟨#[105, 100]⟩]).alloc _
              have HK2 : Hid (Blk ((wp.alloc (.cells #[.string ⟨#[105, 100]⟩] 9)).alloc (.cells #[.int .i64 6, .int .i64 0, .string ⟨#[]⟩, .slice none 0 0, .slice Ak j ck] 25)) (wp.heap.size + 1) 25 #[.int .i64 6, .int .i64 0, .string ⟨#[]⟩, .slice none 0 0, .slice Ak j ck]) := Blk.at_ (by simp)
              clear hI hx hxs hj hlt
              go_wp2_with (at_builtin; refine wpList_pushNd ((wp.alloc (.cells #[.string ⟨#[105, 100]⟩] 9)).alloc (.cells #[.int .i64 6, .int .i64 0, .string ⟨#[]⟩, .slice none 0 0, .slice Ak j ck] 25)) rfl _ _ rfl wa.heap.size (.slice Ab k cb) k xs rfl (World.ownsRow.alloc (World.ownsRow.alloc HX.out _) _) 7 0 ⟨#[]⟩ (some ⟨wp.heap.size, 0, none⟩) 1 1 (some ⟨wp.heap.size + 1, 0, none⟩) 1 1 (by simp [Act.eval]) (by omega) (by simp; omega) ?_; intro v3 w3 o3 g3 q3; obtain ⟨Ab', cb', rfl⟩ := own_form o3; have O3 := Lib.hid o3; have G3 := Lib.hid g3; have Q3 := Lib.hid q3; clear o3 g3 q3)
              have HP5 : Hid (P2 m wa (k + 1) Ab' cb' Aw2 nj cw2 w3) := P3.close HP.out HQ.out k5 (by omega) HVB.out hwo (belA (belA (Below.refl _ _))) HK1.out HK2.out (by omega) (by omega) HX.out HXS.out O3.out G3.out Q3.out
              go_roundw
              case rel => exact ⟨k + 1, Ab', cb', Aw2, nj, cw2, by omega, by go_num, rfl, rfl, HP5⟩
              case measure => simp [intOf]; omega
        · obtain rfl : k = l1 := by omega
          have HBO : Hid (pointN (ndB (rowsF m k)) pathSI = (some (.mk 6 0 ⟨#[]⟩ [] ((rowsF m k).flatten.map num4)), 0)) := starsB _ (rowsF_ok m k (by omega))
          have HBS : Hid (sizeOk (ndB (rowsF m k)) ∧ (ndB (rowsF m k)).count ≤ 1000000) := ndB_size _ (rowsF_ok m k (by omega))
          have hnw : nw = (rowsF m k).flatten.length := hI.out.1
          have n9 : nw ≤ 1000 := by rw [hnw]; have := rowsF_len m k (by omega); omega
          generalize hFL : (rowsF m k).flatten = fl at *
          have HAB := hI.out.2.2.2
          have HW0 : Hid (Below w.heap.size w wo) := nextB HB.out HAB
          have HGA : Hid (∀ w', Below wo.heap.size wo w' → Calls Tryd.prog 13 #[.agg #[.int .i64 6, .int .i64 0, .string ⟨#[]⟩, .slice none 0 0, .slice Aa i ca], .string ⟨#[47, 42, 47, 105, 100]⟩] w' (PointP (some (.mk 6 0 ⟨#[]⟩ [] (l.map num4)), 0) w')) := fun w' h => by
            rw [← HAO.out]
            exact pGet_any (ndA l) pathSI _ w' wa.heap.size (HA.out w' (nextB HAB h)) (nextB HAB h).size HAS.out.1 HAS.out.2 (by decide) (HMX.out.below (nextB HW0.out h))
          have HBN : NdIs wo wo.heap.size (ndB (rowsF m k)) [.int .i64 6, .int .i64 0, .string ⟨#[]⟩, .slice none 0 0, .slice Ab k cb] := hI.out.2.1.arr (Nat.le_refl _) (by simp [rowsF]) (by simp [rowsF]; omega)
          have HGB : Hid (∀ w', Below wo.heap.size wo w' → Calls Tryd.prog 13 #[.agg #[.int .i64 6, .int .i64 0, .string ⟨#[]⟩, .slice none 0 0, .slice Ab k cb], .string ⟨#[47, 42, 47, 105, 100]⟩] w' (PointP (some (.mk 6 0 ⟨#[]⟩ [] (fl.map num4)), 0) w')) := fun w' h => by
            rw [← HBO.out]
            exact pGet_any (ndB (rowsF m k)) pathSI _ w' wo.heap.size (HBN.below h) h.size HBS.out.1 HBS.out.2 (by decide) (HMX.out.below (nextB HW0.out h))
          have HWC : Hid (∀ j, j < nw → ∃ g, Aw = some ⟨g, 0, none⟩ ∧ g < wo.heap.size ∧ wo.cell? ⟨g, j, none⟩ = some (.int .i64 (fl.getD j 0))) := fun j hj => by
            have ho := hI.out.2.2.1
            rw [hFL] at ho
            obtain ⟨g, cap, hv, _, hlt⟩ := ho.form (by omega)
            injection hv with hA _ _
            refine ⟨g, hA, hlt, ?_⟩
            have := ho.cells (g := g) (by rw [hA]; rfl) j (.int .i64 (fl.getD j 0)) (by rw [List.getElem?_map, List.getElem?_eq_getElem (by omega)]; simp [List.getD, show j < fl.length by omega])
            rw [show (⟨g, 0, none⟩ : Addr).add j = ⟨g, j, none⟩ by unfold Addr.add; split <;> simp_all] at this
            exact this
          have HNW := Lib.hid hnw
          clear hI HBN HBO HBS HAO HAS HA HB HAB hFL hnw hk hlt
          go_wp2_with fail
          refine (HGA.out _ (Below.refl _ _)).mono ?_; rintro e v2 ⟨g0, g1, g2, g3, g4, g5, g6, g7, g8, rfl, hn2, hv2⟩
          obtain ⟨e0, e7, hxc⟩ := arr_cells (NdIn.is (B := v2.heap.size) (fun b hb => hb.2) _ _ hn2)
          rw [HL.out] at e7 hxc
          obtain rfl : 6 = g0 := e0.symm
          obtain rfl : i = g7 := e7.symm
          have HXC := Lib.hid hxc
          have hP2 : Blk (v2.alloc (.cells #[.int .i64 6, .int .i64 g1, .string g2, .slice g3 g4 g5, .slice g6 i g8] 25)) v2.heap.size 25 #[.int .i64 6, .int .i64 g1, .string g2, .slice g3 g4 g5, .slice g6 i g8] := Blk.new v2 _ _
          have hC2 : Below wo.heap.size wo (v2.alloc (.cells #[.int .i64 6, .int .i64 g1, .string g2, .slice g3 g4 g5, .slice g6 i g8] 25)) := hv2.alloc hv2.size _
          have HC2 := Lib.hid hC2
          have HP2 := Lib.hid hP2
          clear hn2 hxc hP2 hC2
          go_wp2_with fail
          refine (HGB.out _ HC2.out).mono ?_; rintro e v3 ⟨h0, h1, h2, h3, h4, h5, h6, h7, h8, rfl, hn3, hv3⟩
          obtain ⟨e0, e7, hyc⟩ := arr_cells (NdIn.is (B := v3.heap.size) (fun b hb => hb.2) _ _ hn3)
          rw [← HNW.out] at e7 hyc
          obtain rfl : 6 = h0 := e0.symm
          obtain rfl : nw = h7 := e7.symm
          have HYC := Lib.hid hyc
          have HC3 : Hid (Below wo.heap.size wo v3) := nextB HC2.out hv3
          have HQ3 : Hid (Blk (v3.alloc (.cells #[.int .i64 6, .int .i64 h1, .string h2, .slice h3 h4 h5, .slice h6 nw h8] 25)) v3.heap.size 25 #[.int .i64 6, .int .i64 h1, .string h2, .slice h3 h4 h5, .slice h6 nw h8]) := Blk.new v3 _ _
          have HP3 : Hid (Blk (v3.alloc (.cells #[.int .i64 6, .int .i64 h1, .string h2, .slice h3 h4 h5, .slice h6 nw h8] 25)) v2.heap.size 25 #[.int .i64 6, .int .i64 g1, .string g2, .slice g3 g4 g5, .slice g6 i g8]) := (HP2.out.below hv3 HP2.out.lt).alloc _
          have HV3 : Hid (v2.heap.size < v3.heap.size ∧ Below v2.heap.size v2 v3) := ⟨by have := hv3.size; simp at this; omega, ((Below.refl _ _).alloc (Nat.le_refl _) _).trans (hv3.mono (by simp))⟩
          obtain ⟨x0, x1, x2, x3, x4⟩ := HP3.out.cells5
          obtain ⟨y0, y1, y2, y3, y4⟩ := HQ3.out.cells5
          clear hn3 hyc hv3 hv2 y0 y1 y2 y3 x1 x2 x3
          go_wp2_with (go_at_call 16; refine (num9_l3 _ _).mono ?_; rintro e w2 ⟨rfl, hw⟩; obtain rfl : _ = w2 := hw)
          have HU0 : Hid (Below v3.heap.size v3 (v3.alloc (.cells #[.int .i64 6, .int .i64 h1, .string h2, .slice h3 h4 h5, .slice h6 nw h8] 25))) := (Below.refl _ _).alloc (Nat.le_refl _) _
          clear x0 x4 y4
          generalize v3.alloc (.cells #[.int .i64 6, .int .i64 h1, .string h2, .slice h3 h4 h5, .slice h6 nw h8] 25) = u at *
          have HUU : Hid (Below u.heap.size u u) := Below.refl _ _
          go_loopw [16] (fun t16 wr => ∃ j : Nat, j ≤ i ∧ t16 = .int .i64 j ∧ Hid (Below u.heap.size u wr)) (fun t16 _ => i - (intOf t16).toNat)
          case atStart => exact ⟨0, by omega, rfl, HUU⟩
          case round =>
            clear HUU
            obtain ⟨j, hj, rfl, hU⟩ := hrel
            obtain ⟨wp, rfl⟩ : ∃ wp : World, wp = wr := ⟨_, rfl⟩
            by_cases hlt : j < i
            · obtain ⟨b, off, rfl, hb, hcell⟩ := HXC.out j hlt
              obtain ⟨b', off', rfl, hb', hcell'⟩ := HLC.out j hlt
              have hz := HLR.out (l.getD j 0) (by simp [List.getD, show j < l.length by rw [HL.out]; exact hlt])
              have hv3s := HV3.out.2.size
              have hus := HU0.out.size
              have k1 : wp.cell? ⟨b, off + j * 5 + 1, none⟩ = some (.int .i64 (l.getD j 0)) := (hU.out.cell (by show b < _; omega)).trans ((HU0.out.cell (by show b < _; omega)).trans ((HV3.out.2.cell (by show b < _; omega)).trans hcell))
              have hws := HW0.out.size
              have hcs := HC3.out.size
              have k2 : wp.cell? ⟨b', off' + j, none⟩ = some (.int .i16 (l.getD j 0)) := (hU.out.cell (by show b' < _; omega)).trans ((HU0.out.cell (by show b' < _; omega)).trans ((HC3.out.cell (by show b' < _; omega)).trans ((HW0.out.cell hb').trans hcell')))
              have k3 : wp.cell? ⟨v2.heap.size, 4, none⟩ = some (.slice (some ⟨b, off, none⟩) i g8) := (hU.out.cell (by show v2.heap.size < _; have := HV3.out.1; omega)).trans (HP3.out.cell 4)
              generalize l.getD j 0 = z at *
              have wz : IntKind.i64.wrap z = z := IntWalk.i64_in _ (by omega)
              have j0 : (0 : Int) ≤ (j : Int) := by omega
              have j1 : (j : Int) < (i : Int) := by omega
              clear hcell hcell' hb hb' hz hv3s hus hws hcs
              go_wp2_with fail
              go_quiet (fail)
              go_wp2_with fail
              go_roundw
              case rel => exact ⟨j + 1, by omega, by go_num, below_drewN hU.out _⟩
              case measure => simp [intOf]; omega
            · obtain rfl : j = i := by omega
              have HUU : Hid (Below u.heap.size u wp) := hU
              clear hU
              go_wp2_with fail
              go_loopw [17] (fun t17 wr => ∃ r : Nat, r ≤ nw ∧ t17 = .int .i64 r ∧ Hid (Below u.heap.size u wr)) (fun t17 _ => nw - (intOf t17).toNat)
              case atStart => exact ⟨0, by omega, rfl, HUU⟩
              case round =>
                clear HUU
                obtain ⟨r, hr, rfl, hU⟩ := hrel
                obtain ⟨wp2, rfl⟩ : ∃ wp2 : World, wp2 = wr := ⟨_, rfl⟩
                by_cases hlt : r < nw
                · obtain ⟨b, off, rfl, hb, hcell⟩ := HYC.out r hlt
                  obtain ⟨g, rfl, hg, hcell'⟩ := HWC.out r hlt
                  have hus := HU0.out.size
                  have hcs := HC3.out.size
                  have k1 : wp2.cell? ⟨b, off + r * 5 + 1, none⟩ = some (.int .i64 (fl.getD r 0)) := (hU.out.cell (by show b < _; omega)).trans ((HU0.out.cell (by show b < _; omega)).trans hcell)
                  have k2 : wp2.cell? ⟨g, r, none⟩ = some (.int .i64 (fl.getD r 0)) := (hU.out.cell (by show g < _; omega)).trans ((HU0.out.cell (by show g < _; omega)).trans ((HC3.out.cell (by show g < _; omega)).trans hcell'))
                  have k3 : wp2.cell? ⟨v3.heap.size, 4, none⟩ = some (.slice (some ⟨b, off, none⟩) nw h8) := (hU.out.cell (by show v3.heap.size < _; have := HQ3.out.lt; omega)).trans (HQ3.out.cell 4)
                  generalize fl.getD r 0 = z at *
                  have j0 : (0 : Int) ≤ (r : Int) := by omega
                  have j1 : (r : Int) < (nw : Int) := by omega
                  clear hcell hcell' hb hg hus hcs
                  go_wp2_with fail
                  go_quiet (fail)
                  go_wp2_with fail
                  go_roundw
                  case rel => exact ⟨r + 1, by omega, by go_num, below_drewN hU.out _⟩
                  case measure => simp [intOf]; omega
                · obtain rfl : r = nw := by omega
                  have HF : Hid (Below w.heap.size w wp2) := nextB (nextB (nextB HW0.out HC3.out) HU0.out) hU.out
                  clear hU
                  go_wp2_with (go_at_call 12; refine (HAW.out _ HF.out : Calls _ _ _ _ _).mono ?_; rintro e w9 ⟨rfl, hw⟩; have HE := Lib.hid (nextB HF.out hw); clear hw)
                  go_ret
                  exact ⟨rfl, HE.out⟩
end Go.Proofs.YtnbfagignbbmfaaDoor
