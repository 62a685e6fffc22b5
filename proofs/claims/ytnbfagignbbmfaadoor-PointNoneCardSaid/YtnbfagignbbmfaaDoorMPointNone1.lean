/- Texts of one seat, one behind the other: Pt13, Pt14. No condition. -/
import Derived.Test.YtnbfagignbbmfaaDoorQ5
import Derived.Deep.RegionLaw
/-! Rows of numbers as nodes; an append inside a region that draws. -/
namespace Go.Proofs.YtnbfagignbbmfaaDoor
open Go.RowKit Go.PlainAid
set_option linter.unusedVariables false
set_option linter.unusedSimpArgs false
set_option maxRecDepth 100000
/-- nodes that lie somewhere, appended to nodes of the call's own, inside a region that draws -/
theorem step_pushNds {w : World} {ops : Array Oper} {o : Oper} {a : Act} {K : Act → World → Prop} {Q : Exit → Act → World → Prop} {E : Prop} (hgd : o.guard = none) (s x : Operand)
    (ho : o.op = .call { callee := .builtin .append, args := #[s, x], argTypes := #[23, 23] })
    (B : Nat) (v : Value) (n : Nat) (xs : List Value) (hs : a.eval s = v) (hown : w.ownsRow B 25 5 v n xs) (B2 : Nat) (A : Option Addr) (m c : Nat) (ys : List Value) (hr : Reads w B2 5 A m ys) (h1 : ∀ u ∈ ys, u.oneCell' = true)
    (hx : a.eval x = .slice A m c)
    (hlim : n + m ≤ 1000000000000) (hB : B ≤ w.heap.size)
    (h : ∀ v' w', w'.ownsRow B 25 5 v' (n + m) (xs ++ ys) → w.grownBy w' v.ownBlock → K (a.put o.dst v') w') :
    if Region.wanted o (yielded ops a.tmps) = true then Oper.wp Tryd.prog o a w K Q else E := by
  have hw : Region.wanted o (yielded ops a.tmps) = true := by simp [Region.wanted, hgd]
  rw [if_pos hw]
  obtain ⟨i0, hi0, hz0, hz1, hz2⟩ := info_parts nodeInfo
  obtain ⟨v', w', h1, h2, h3, h4⟩ := run_append_any (P := Tryd.prog) w B 23 o.type 25 i0 _ 5 80 Tryd.underlying23 hi0 hz0 hz1 hz2 rfl (by omega) v n _ hown B2 _ m c _ hr
    h1 (by simp only [maxLen]; omega) (by omega) hB
  unfold Oper.wp execOp
  simp only [ho, resolve, invoke, builtin, Sem.run_bind, Sem.run_pure, Result.andThen_ok, List.map_toArray, List.map_cons, List.map_nil, hs, hx, h1]
  exact h v' w' h2 h3
def numC (j : Nat) : List Value := [.int .i64 4, .int .i64 (j : Int), .string ⟨#[]⟩, .slice none 0 0, .slice none 0 0]
def numsC (k : Nat) : List Value := (List.range k).flatMap numC
def numsN (k : Nat) : List Nd := (List.range k).map fun (j : Nat) => num4 (j : Int)
theorem numsC_succ (k : Nat) : numsC (k + 1) = numsC k ++ numC k := by
  unfold numsC
  rw [List.range_succ, List.flatMap_append]
  simp
theorem numsN_succ (k : Nat) : numsN (k + 1) = numsN k ++ [num4 (k : Int)] := by
  unfold numsN
  rw [List.range_succ, List.map_append]
  rfl
theorem numsN_len (k : Nat) : (numsN k).length = k := by simp [numsN]
theorem NdsIs.snoc {w : World} {B : Nat} : ∀ (ns : List Nd) (xs : List Value) (n : Nd) (cs : List Value), NdsIs w B ns xs → NdIs w B n cs → NdsIs w B (ns ++ [n]) (xs ++ cs)
  | [], xs, n, cs, h, hn => by
    unfold NdsIs at h; subst h
    have := NdsIs.cons hn (NdsIs.nil_ (w := w) (B := B))
    simpa using this
  | m :: ns, xs, n, cs, h, hn => by
    unfold NdsIs at h
    obtain ⟨ds, ys, rfl, h2, h3⟩ := h
    have := NdsIs.cons h2 (NdsIs.snoc ns ys n cs h3 hn)
    simpa using this
theorem numsN_is (w : World) (B : Nat) : ∀ k, k ≤ 1000000 → NdsIs w B (numsN k) (numsC k)
  | 0, _ => NdsIs.nil_
  | k + 1, h => by
    rw [numsN_succ, numsC_succ]
    exact NdsIs.snoc _ _ _ _ (numsN_is w B k (by omega)) (num4_is _ (by unfold I64; omega) w B)
theorem numsN_right (k : Nat) (deep : Int) (h : k ≤ 1000000) : rightLD (numsN k) deep = true := by
  have e : ∀ l : List Nd, (∀ n ∈ l, rightD n deep = true) → rightLD l deep = true := fun l => by
    induction l with
    | nil => intro _; exact rightLD_nil _
    | cons n l ih => intro hl; rw [rightLD_cons, hl n (by simp), ih (fun m hm => hl m (by simp [hm]))]; rfl
  refine e _ fun n hn => ?_
  unfold numsN at hn
  rw [List.mem_map] at hn
  obtain ⟨j, hj, rfl⟩ := hn
  have := List.mem_range.1 hj
  exact rightD_num4 _ (by omega) (by omega)
theorem numsN_size (k : Nat) (h : k ≤ 1000000) : sizeOkL (numsN k) := by
  have e : ∀ l : List Nd, (∀ n ∈ l, sizeOk n) → sizeOkL l := fun l => by
    induction l with
    | nil => intro _; exact sizeL_nil
    | cons n l ih => intro hl; exact sizeL_cons (hl n (by simp)) (ih (fun m hm => hl m (by simp [hm])))
  refine e _ fun n hn => ?_
  unfold numsN at hn
  rw [List.mem_map] at hn
  obtain ⟨j, hj, rfl⟩ := hn
  have := List.mem_range.1 hj
  exact size_num4 (by unfold I64; omega)
theorem numsN_count (k : Nat) : Nd.count.counts (numsN k) = k := by
  induction k with
  | zero => rfl
  | succ k ih => rw [numsN_succ, counts_app, ih]; simp [Nd.count.counts, count_num4]
end Go.Proofs.YtnbfagignbbmfaaDoor
/-! The walk of PointNone. -/
namespace Go.Proofs.YtnbfagignbbmfaaDoor
open Go.RowKit Go.PlainAid
set_option linter.unusedVariables false
set_option linter.unusedSimpArgs false
set_option maxRecDepth 100000
def ndNone (k : Nat) : Nd := .mk 7 0 ⟨#[]⟩ [⟨#[108]⟩] [.mk 6 0 ⟨#[]⟩ [] (numsN k)]
theorem ndNone_right (k : Nat) (h : k ≤ 1000) : rightD (ndNone k) 0 = true := by
  unfold ndNone
  refine rightD_obj (by omega) rfl (keysB_of _ (by simp) (by intro s hs; simp at hs; subst hs; rw [tl_lit]; decide)) ?_
  rw [rightLD_cons, rightLD_nil, Bool.and_true]
  exact rightD_arr6 (by omega) (numsN_right _ _ (by omega))
theorem ndNone_size (k : Nat) (h : k ≤ 1000) : sizeOk (ndNone k) ∧ (ndNone k).count ≤ 1000000 := by
  unfold ndNone
  refine ⟨size_lit (by intro s hs; simp at hs; subst hs; decide) (by simp) (by simp) (sizeL_cons (size_lit (by simp) (by simp) (by rw [numsN_len]; omega) (numsN_size _ (by omega))) sizeL_nil), ?_⟩
  simp [Nd.count, Nd.count.counts, numsN_count]; omega
theorem find_l (k : Nat) : findN (ndNone k) ⟨#[108]⟩ = some (.mk 6 0 ⟨#[]⟩ [] (numsN k)) := by
  unfold ndNone
  exact findN_lit (i := 0) (by simp only [List.map_cons, List.map_nil, tl_lit]; decide)
theorem find_no (k : Nat) (x : ByteArray) (h : x.toList ≠ [108]) : findN (ndNone k) x = none := by
  unfold ndNone
  refine findN_lit0 ?_
  simp only [List.map_cons, List.map_nil, tl_lit]
  simp [h]
def atN (a b : Int) : ByteArray := strOfNums [47, 108, 47, a, b]
theorem at_plain (a b : Int) (ha : 53 ≤ a ∧ a ≤ 57) (hb : 48 ≤ b ∧ b ≤ 57) : formP (atN a b) = true ∧ partsP (atN a b) = [⟨#[108]⟩, strOfNums [a, b]] ∧ (strOfNums [a, b]).size = 2 ∧ bt (strOfNums [a, b]) 0 = a ∧ bt (strOfNums [a, b]) 1 = b := by
  have h1 : a = 53 ∨ a = 54 ∨ a = 55 ∨ a = 56 ∨ a = 57 := by omega
  have h2 : b = 48 ∨ b = 49 ∨ b = 50 ∨ b = 51 ∨ b = 52 ∨ b = 53 ∨ b = 54 ∨ b = 55 ∨ b = 56 ∨ b = 57 := by omega
  rcases h1 with rfl | rfl | rfl | rfl | rfl <;> rcases h2 with rfl | rfl | rfl | rfl | rfl | rfl | rfl | rfl | rfl | rfl <;>
    exact ⟨by unfold formP atN; rw [nums_toList]; decide, by unfold partsP atN; rw [nums_toList]; rfl, rfl, rfl, rfl⟩
theorem at_place (a b : Int) (ha : 53 ≤ a ∧ a ≤ 57) (hb : 48 ≤ b ∧ b ≤ 57) (k : Nat) (hk : k < 50) : placeF (strOfNums [a, b]) k < 0 := by
  obtain ⟨_, _, h1, h2, h3⟩ := at_plain a b ha hb
  unfold placeF
  rw [h1, h2, if_neg (by omega)]
  have hd : digitsB (strOfNums [a, b]) 2 = true := by
    simp only [digitsB, h2, h3]
    simp; omega
  rw [if_neg (by rw [hd]; simp), if_pos]
  · omega
  · simp only [numZ, h2, h3]; omega
theorem strOf_ne42 (a b : Int) (ha : 53 ≤ a ∧ a ≤ 57) : (strOfNums [a, b]).toList ≠ [42] := by
  rw [nums_toList]; simp
theorem none0 (k : Nat) (h : k < 50) (a b : Int) (ha : 53 ≤ a ∧ a ≤ 57) (hb : 48 ≤ b ∧ b ≤ 57) : pointN (ndNone k) (atN a b) = (none, 7) := by
  obtain ⟨h1, h2, _⟩ := at_plain a b ha hb
  refine pointN_none (ndNone_right k (by omega)) h1 ?_
  rw [h2, getN_find rfl (find_l k), getN_noat rfl (strOf_ne42 a b ha)]
  exact at_place a b ha hb _ (by simp [Nd.kids, numsN_len]; omega)
theorem none1 (k : Nat) (h : k < 50) : pointN (ndNone k) ⟨#[47, 109]⟩ = (none, 7) := by
  refine pointN_none (ndNone_right k (by omega)) (by unfold formP; rw [tl_lit]; decide) ?_
  rw [show partsP ⟨#[47, 109]⟩ = [⟨#[109]⟩] by unfold partsP; rw [tl_lit]; rfl, getN_nofind rfl (find_no k _ (by rw [tl_lit]; decide))]
theorem none2 (k : Nat) (h : k < 50) : pointN (ndNone k) ⟨#[47, 108, 47, 48, 47, 120]⟩ = (none, 7) := by
  refine pointN_none (ndNone_right k (by omega)) (by unfold formP; rw [tl_lit]; decide) ?_
  rw [show partsP ⟨#[47, 108, 47, 48, 47, 120]⟩ = [⟨#[108]⟩, ⟨#[48]⟩, ⟨#[120]⟩] by unfold partsP; rw [tl_lit]; rfl, getN_find rfl (find_l k)]
  have hl : (numsN k).length = k := numsN_len k
  by_cases hk : k = 0
  · subst hk
    rw [getN_noat rfl (by rw [tl_lit]; decide)]
    show placeF ⟨#[48]⟩ 0 < 0
    decide +kernel
  · have hp : placeF ⟨#[48]⟩ k = ((0 : Nat) : Int) := by
      unfold placeF
      rw [if_neg (by decide +kernel), if_neg (by decide +kernel), if_neg]
      · decide +kernel
      · rw [show numZ ⟨#[48]⟩ (⟨#[48]⟩ : ByteArray).size = 0 by decide +kernel]; omega
    have hm : (numsN k)[0]? = some (num4 0) := by
      unfold numsN
      rw [List.getElem?_map, List.getElem?_range (by omega)]; rfl
    rw [getN_at (n := .mk 6 0 ⟨#[]⟩ [] (numsN k)) (i := 0) (m := num4 0) rfl (by rw [tl_lit]; decide) (by show placeF _ (numsN k).length = _; rw [hl]; exact hp) hm]
    exact getN_else (by decide) (by decide)
theorem none3 (k : Nat) (h : k < 50) : pointN (ndNone k) ⟨#[108]⟩ = (none, 3) := pointN_form (ndNone_right k (by omega)) (by unfold formP; rw [tl_lit]; decide)
theorem none4 (k : Nat) (h : k < 50) : pointN (ndNone k) ⟨#[47, 108, 126, 50]⟩ = (none, 3) := pointN_form (ndNone_right k (by omega)) (by unfold formP; rw [tl_lit]; decide)
theorem none5 (k : Nat) (h : k < 50) : pointN (ndNone k) ⟨#[47, 108, 47, 48, 48]⟩ = (none, 7) := by
  refine pointN_none (ndNone_right k (by omega)) (by unfold formP; rw [tl_lit]; decide) ?_
  rw [show partsP ⟨#[47, 108, 47, 48, 48]⟩ = [⟨#[108]⟩, ⟨#[48, 48]⟩] by unfold partsP; rw [tl_lit]; rfl, getN_find rfl (find_l k), getN_noat rfl (by rw [tl_lit]; decide)]
  unfold placeF
  rw [if_pos (by decide +kernel)]
  omega
theorem none6 (k : Nat) (h : k < 50) : pointN (ndNone k) ⟨#[47, 42]⟩ = (none, 7) := by
  refine pointN_none (ndNone_right k (by omega)) (by unfold formP; rw [tl_lit]; decide) ?_
  rw [show partsP ⟨#[47, 42]⟩ = [⟨#[42]⟩] by unfold partsP; rw [tl_lit]; rfl, getN_nofind rfl (find_no k _ (by rw [tl_lit]; decide))]
theorem num4_in (n : Int) (w : World) (S : Nat → Prop) (h : I64 n) : NdIn w S (num4 n) [.int .i64 4, .int .i64 n, .string ⟨#[]⟩, .slice none 0 0, .slice none 0 0] := by
  unfold num4 NdIn
  exact ⟨none, 0, none, 0, [], rfl, RS.none_, RS.none_, NdsIn.nil, by unfold I64; omega, h, by (show (0 : Nat) ≤ maxLen); exact Nat.zero_le _, by simp, by simp [maxLen], by simp [maxLen]⟩
def NInv (w : World) (i : Nat) (Aw : Option Addr) (cw : Nat) (wr : World) : Prop :=
  wr.ownsRow (w.heap.size + 1) 25 5 (.slice Aw i cw) i (numsC i) ∧ Blk wr w.heap.size 25 #[.int .i64 6, .int .i64 0, .string ⟨#[]⟩, .slice none 0 0, .slice Aw i cw] ∧ Below w.heap.size w wr ∧ w.heap.size + 1 ≤ wr.heap.size
set_option maxHeartbeats 2000000 in
theorem pointNone_walk (n more : Int) (w0 : (Lit.int .u8 n).wf = true) (w1 : (Lit.int .u8 more).wf = true) (w : World) (hM : MaxOK w) : Calls Tryd.prog 6 #[.int .u8 n, .int .u8 more] w fun e w' => e = .returned (.bool true) ∧ Below w.heap.size w w' := by
  have hn : 0 ≤ n ∧ n ≤ 255 := by
    simp [Lit.wf] at w0
    have e1 : IntKind.u8.min = 0 := rfl
    have e2 : IntKind.u8.max = 255 := rfl
    rw [e1, e2] at w0
    exact w0
  have hm : 0 ≤ more ∧ more ≤ 255 := by
    simp [Lit.wf] at w1
    have e1 : IntKind.u8.min = 0 := rfl
    have e2 : IntKind.u8.max = 255 := rfl
    rw [e1, e2] at w1
    exact w1
  obtain ⟨n0, n1⟩ := hn
  obtain ⟨m0, m1⟩ := hm
  obtain ⟨k, hk⟩ : ∃ k : Nat, (k : Int) = n % 50 := ⟨(n % 50).toNat, by omega⟩
  obtain ⟨a, ha⟩ : ∃ a : Int, a = 53 + more % 5 := ⟨_, rfl⟩
  obtain ⟨b, hb⟩ : ∃ b : Int, b = 48 + more % 10 := ⟨_, rfl⟩
  have k1 : k < 50 := by omega
  have a1 : 53 ≤ a ∧ a ≤ 57 := by omega
  have b1 : 48 ≤ b ∧ b ≤ 57 := by omega
  have nk : IntKind.i64.wrap n = n := IntWalk.i64_in _ (by omega)
  have tk : n.tmod 50 = (k : Int) := by rw [hk]; exact Int.tmod_eq_emod_of_nonneg n0
  have ta : 53 + more % 5 = a := ha.symm
  have tb : 48 + more % 10 = b := hb.symm
  have HK := Lib.hid k1
  have HA1 := Lib.hid a1
  have HB1 := Lib.hid b1
  have HM := Lib.hid hM
  have hA : Below w.heap.size w (w.alloc (.cells #[.int .i64 6, .int .i64 0, .string ⟨#[]⟩, .slice none 0 0, .slice none 0 0] 25)) := (Below.refl _ _).alloc (Nat.le_refl _) _
  have HI0 : Hid (NInv w 0 none 0 (w.alloc (.cells #[.int .i64 6, .int .i64 0, .string ⟨#[]⟩, .slice none 0 0, .slice none 0 0] 25))) := ⟨World.ownsRow_nil _ _ _ _, Blk.new w _ _, hA, by simp⟩
  clear w0 w1 hM hA ha hb hk a1 b1
  go_enter Tryd.func6, Tryd.ntmps6
  go_wp2_with fail
  go_loopw [7] (fun t7 wr => ∃ (i : Nat) (Aw : Option Addr) (cw : Nat), i ≤ k ∧ t7 = .int .i64 i ∧ Hid (NInv w i Aw cw wr)) (fun t7 _ => k - (intOf t7).toNat)
  case atStart => exact ⟨0, none, 0, by omega, rfl, HI0⟩
  case round =>
    clear HI0
    obtain ⟨i, Aw, cw, hi, rfl, hI⟩ := hrel
    obtain ⟨wo, rfl⟩ : ∃ wo : World, wo = wr := ⟨_, rfl⟩
    by_cases hlt : i < k
    · have hi2 : i ≤ 1000 := by have := HK.out; omega
      obtain ⟨d0, d1, d2, d3, d4⟩ := hI.out.2.1.cells5
      have hwo := hI.out.2.2.2
      have d5 := hI.out.2.1.frozen 4
      clear d0 d1 d2 d3
      have HX1 : Hid (((wo.alloc (.cells #[.int .i64 4, .int .i64 (i : Int), .string ⟨#[]⟩, .slice none 0 0, .slice none 0 0] 25)).alloc (.cells #[.int .i64 4, .int .i64 (i : Int), .string ⟨#[]⟩, .slice none 0 0, .slice none 0 0] 25)).ownsRow (w.heap.size + 1) 25 5 (.slice Aw i cw) i (numsC i)) := World.ownsRow.alloc (World.ownsRow.alloc hI.out.1 _) _
      have HX2 : Hid (Blk ((wo.alloc (.cells #[.int .i64 4, .int .i64 (i : Int), .string ⟨#[]⟩, .slice none 0 0, .slice none 0 0] 25)).alloc (.cells #[.int .i64 4, .int .i64 (i : Int), .string ⟨#[]⟩, .slice none 0 0, .slice none 0 0] 25)) (wo.heap.size + 1) 25 (numC i).toArray) := by
        have := Blk.new (wo.alloc (.cells #[.int .i64 4, .int .i64 (i : Int), .string ⟨#[]⟩, .slice none 0 0, .slice none 0 0] 25)) 25 #[.int .i64 4, .int .i64 (i : Int), .string ⟨#[]⟩, .slice none 0 0, .slice none 0 0]
        rw [show (wo.alloc (.cells #[.int .i64 4, .int .i64 (i : Int), .string ⟨#[]⟩, .slice none 0 0, .slice none 0 0] 25)).heap.size = wo.heap.size + 1 by simp] at this
        exact this
      have HX3 : Hid (Blk ((wo.alloc (.cells #[.int .i64 4, .int .i64 (i : Int), .string ⟨#[]⟩, .slice none 0 0, .slice none 0 0] 25)).alloc (.cells #[.int .i64 4, .int .i64 (i : Int), .string ⟨#[]⟩, .slice none 0 0, .slice none 0 0] 25)).drew w.heap.size 25 #[.int .i64 6, .int .i64 0, .string ⟨#[]⟩, .slice none 0 0, .slice Aw i cw]) := ((hI.out.2.1.alloc _).alloc _).drew
      have HX4 : Hid (Below w.heap.size w ((wo.alloc (.cells #[.int .i64 4, .int .i64 (i : Int), .string ⟨#[]⟩, .slice none 0 0, .slice none 0 0] 25)).alloc (.cells #[.int .i64 4, .int .i64 (i : Int), .string ⟨#[]⟩, .slice none 0 0, .slice none 0 0] 25)).drew) := ((hI.out.2.2.1.alloc hI.out.2.2.1.size _).alloc (by simp; omega) _).drew
      have HXZ : Hid (((wo.alloc (.cells #[.int .i64 4, .int .i64 (i : Int), .string ⟨#[]⟩, .slice none 0 0, .slice none 0 0] 25)).alloc (.cells #[.int .i64 4, .int .i64 (i : Int), .string ⟨#[]⟩, .slice none 0 0, .slice none 0 0] 25)).drew.heap.size = wo.heap.size + 2) := by show _ = _; show ((wo.alloc _).alloc _).heap.size = _; simp
      have d6 : (wo.alloc (.cells #[.int .i64 4, .int .i64 (i : Int), .string ⟨#[]⟩, .slice none 0 0, .slice none 0 0] 25)).cell? ⟨w.heap.size, 4, none⟩ = some (.slice Aw i cw) := (World.cell?_alloc_lt _ _ _ (show w.heap.size < wo.heap.size by omega)).trans d4
      have d7 : ((wo.alloc (.cells #[.int .i64 4, .int .i64 (i : Int), .string ⟨#[]⟩, .slice none 0 0, .slice none 0 0] 25)).alloc (.cells #[.int .i64 4, .int .i64 (i : Int), .string ⟨#[]⟩, .slice none 0 0, .slice none 0 0] 25)).cell? ⟨w.heap.size, 4, none⟩ = some (.slice Aw i cw) := (World.cell?_alloc_lt _ _ _ (by show w.heap.size < _; simp; omega)).trans d6
      have hown : ∀ g, (Value.slice Aw i cw).ownBlock = some g → w.heap.size + 1 ≤ g := fun g hg => (own_lt hI.out.1 hg).1
      have HOWN := Lib.hid hown
      clear hown
      go_wp2_with fail
      go_region_law (first
        | (refine step_pushNds rfl _ _ rfl (w.heap.size + 1) (.slice Aw i cw) i (numsC i) rfl HX1.out (wo.heap.size + 2) (some ⟨wo.heap.size + 1, 0, none⟩) 1 1 (numC i) (Reads.of_blk HX2.out (by omega) rfl) (by intro u hu; simp [numC] at hu; rcases hu with rfl | rfl | rfl | rfl | rfl <;> rfl) rfl (by omega) (by rw [HXZ.out]; omega) ?_; intro v' w4 ho4 hg4; obtain ⟨Av, cv, rfl⟩ := own_form ho4; have HO4 := Lib.hid ho4; have HG4 := Lib.hid hg4; have HB4 := Lib.hid (HX3.out.grown hg4 (fun e => by have := HOWN.out _ e.symm; omega)); obtain ⟨e0, e1, e2, e3, e4⟩ := HB4.out.cells5; have e5 := HB4.out.frozen 4; clear ho4 hg4 e0 e1 e2 e3)
        | (go_simp; go_at_call 20; refine (num9_any _ _).mono ?_; rintro e w9 ⟨rfl, hw9⟩; subst hw9))
      all_goals
        have HI' : Hid (NInv w (i + 1) Av cv (w4.setCell ⟨w.heap.size, 4, none⟩ (.slice Av (i + 1) cv))) := by
          have hz4 := HG4.out.size
          have hz5 := HXZ.out
          refine ⟨ownsRow_setCell_below (by rw [numsC_succ]; exact HO4.out) (by simp) _, HB4.out.set_ 4 _, (HX4.out.grown HG4.out (by omega) (fun g hg => by have := HOWN.out g hg; omega)).setCell (p := ⟨w.heap.size, 4, none⟩) (by simp) _, by simp; omega⟩
        go_wp2_with fail
        go_roundw
        case rel => exact ⟨i + 1, Av, cv, by omega, by go_num, HI'⟩
        case measure => simp [intOf]; omega
    · obtain rfl : i = k := by omega
      have hbz1 : (wo.alloc (.cells #[.string ⟨#[108]⟩] 9)).heap.size = wo.heap.size + 1 := by simp
      have hbz2 : ((wo.alloc (.cells #[.string ⟨#[108]⟩] 9)).alloc (.cells #[.int .i64 6, .int .i64 0, .string ⟨#[]⟩, .slice none 0 0, .slice Aw i cw] 25)).heap.size = wo.heap.size + 2 := by simp
      have hbz3 : (((wo.alloc (.cells #[.string ⟨#[108]⟩] 9)).alloc (.cells #[.int .i64 6, .int .i64 0, .string ⟨#[]⟩, .slice none 0 0, .slice Aw i cw] 25)).alloc (.cells #[.int .i64 7, .int .i64 0, .string ⟨#[]⟩, .slice (some ⟨wo.heap.size, 0, none⟩) 1 1, .slice (some ⟨wo.heap.size + 1, 0, none⟩) 1 1] 25)).heap.size = wo.heap.size + 3 := by simp
      have hbz4 : ((((wo.alloc (.cells #[.string ⟨#[108]⟩] 9)).alloc (.cells #[.int .i64 6, .int .i64 0, .string ⟨#[]⟩, .slice none 0 0, .slice Aw i cw] 25)).alloc (.cells #[.int .i64 7, .int .i64 0, .string ⟨#[]⟩, .slice (some ⟨wo.heap.size, 0, none⟩) 1 1, .slice (some ⟨wo.heap.size + 1, 0, none⟩) 1 1] 25)).alloc (.cells #[.int .u8 47, .int .u8 108, .int .u8 47, .int .u8 a, .int .u8 b] 5)).heap.size = wo.heap.size + 4 := by simp
      have hb0 : Blk ((((wo.alloc (.cells #[.string ⟨#[108]⟩] 9)).alloc (.cells #[.int .i64 6, .int .i64 0, .string ⟨#[]⟩, .slice none 0 0, .slice Aw i cw] 25)).alloc (.cells #[.int .i64 7, .int .i64 0, .string ⟨#[]⟩, .slice (some ⟨wo.heap.size, 0, none⟩) 1 1, .slice (some ⟨wo.heap.size + 1, 0, none⟩) 1 1] 25)).alloc (.cells #[.int .u8 47, .int .u8 108, .int .u8 47, .int .u8 a, .int .u8 b] 5)) (wo.heap.size) 9 #[.string ⟨#[108]⟩] := ((((Blk.new wo 9 #[.string ⟨#[108]⟩]).alloc (.cells #[.int .i64 6, .int .i64 0, .string ⟨#[]⟩, .slice none 0 0, .slice Aw i cw] 25)).alloc (.cells #[.int .i64 7, .int .i64 0, .string ⟨#[]⟩, .slice (some ⟨wo.heap.size, 0, none⟩) 1 1, .slice (some ⟨wo.heap.size + 1, 0, none⟩) 1 1] 25)).alloc (.cells #[.int .u8 47, .int .u8 108, .int .u8 47, .int .u8 a, .int .u8 b] 5))
      have hb1 : Blk ((((wo.alloc (.cells #[.string ⟨#[108]⟩] 9)).alloc (.cells #[.int .i64 6, .int .i64 0, .string ⟨#[]⟩, .slice none 0 0, .slice Aw i cw] 25)).alloc (.cells #[.int .i64 7, .int .i64 0, .string ⟨#[]⟩, .slice (some ⟨wo.heap.size, 0, none⟩) 1 1, .slice (some ⟨wo.heap.size + 1, 0, none⟩) 1 1] 25)).alloc (.cells #[.int .u8 47, .int .u8 108, .int .u8 47, .int .u8 a, .int .u8 b] 5)) (wo.heap.size + 1) 25 #[.int .i64 6, .int .i64 0, .string ⟨#[]⟩, .slice none 0 0, .slice Aw i cw] := by
        have := (((Blk.new (wo.alloc (.cells #[.string ⟨#[108]⟩] 9)) 25 #[.int .i64 6, .int .i64 0, .string ⟨#[]⟩, .slice none 0 0, .slice Aw i cw]).alloc (.cells #[.int .i64 7, .int .i64 0, .string ⟨#[]⟩, .slice (some ⟨wo.heap.size, 0, none⟩) 1 1, .slice (some ⟨wo.heap.size + 1, 0, none⟩) 1 1] 25)).alloc (.cells #[.int .u8 47, .int .u8 108, .int .u8 47, .int .u8 a, .int .u8 b] 5))
        rw [hbz1] at this; exact this
      have hb2 : Blk ((((wo.alloc (.cells #[.string ⟨#[108]⟩] 9)).alloc (.cells #[.int .i64 6, .int .i64 0, .string ⟨#[]⟩, .slice none 0 0, .slice Aw i cw] 25)).alloc (.cells #[.int .i64 7, .int .i64 0, .string ⟨#[]⟩, .slice (some ⟨wo.heap.size, 0, none⟩) 1 1, .slice (some ⟨wo.heap.size + 1, 0, none⟩) 1 1] 25)).alloc (.cells #[.int .u8 47, .int .u8 108, .int .u8 47, .int .u8 a, .int .u8 b] 5)) (wo.heap.size + 2) 25 #[.int .i64 7, .int .i64 0, .string ⟨#[]⟩, .slice (some ⟨wo.heap.size, 0, none⟩) 1 1, .slice (some ⟨wo.heap.size + 1, 0, none⟩) 1 1] := by
        have := ((Blk.new ((wo.alloc (.cells #[.string ⟨#[108]⟩] 9)).alloc (.cells #[.int .i64 6, .int .i64 0, .string ⟨#[]⟩, .slice none 0 0, .slice Aw i cw] 25)) 25 #[.int .i64 7, .int .i64 0, .string ⟨#[]⟩, .slice (some ⟨wo.heap.size, 0, none⟩) 1 1, .slice (some ⟨wo.heap.size + 1, 0, none⟩) 1 1]).alloc (.cells #[.int .u8 47, .int .u8 108, .int .u8 47, .int .u8 a, .int .u8 b] 5))
        rw [hbz2] at this; exact this
      have hb3 : Blk ((((wo.alloc (.cells #[.string ⟨#[108]⟩] 9)).alloc (.cells #[.int .i64 6, .int .i64 0, .string ⟨#[]⟩, .slice none 0 0, .slice Aw i cw] 25)).alloc (.cells #[.int .i64 7, .int .i64 0, .string ⟨#[]⟩, .slice (some ⟨wo.heap.size, 0, none⟩) 1 1, .slice (some ⟨wo.heap.size + 1, 0, none⟩) 1 1] 25)).alloc (.cells #[.int .u8 47, .int .u8 108, .int .u8 47, .int .u8 a, .int .u8 b] 5)) (wo.heap.size + 3) 5 #[.int .u8 47, .int .u8 108, .int .u8 47, .int .u8 a, .int .u8 b] := by
        have := (Blk.new (((wo.alloc (.cells #[.string ⟨#[108]⟩] 9)).alloc (.cells #[.int .i64 6, .int .i64 0, .string ⟨#[]⟩, .slice none 0 0, .slice Aw i cw] 25)).alloc (.cells #[.int .i64 7, .int .i64 0, .string ⟨#[]⟩, .slice (some ⟨wo.heap.size, 0, none⟩) 1 1, .slice (some ⟨wo.heap.size + 1, 0, none⟩) 1 1] 25)) 5 #[.int .u8 47, .int .u8 108, .int .u8 47, .int .u8 a, .int .u8 b])
        rw [hbz3] at this; exact this
      have hbw : Below wo.heap.size wo ((((wo.alloc (.cells #[.string ⟨#[108]⟩] 9)).alloc (.cells #[.int .i64 6, .int .i64 0, .string ⟨#[]⟩, .slice none 0 0, .slice Aw i cw] 25)).alloc (.cells #[.int .i64 7, .int .i64 0, .string ⟨#[]⟩, .slice (some ⟨wo.heap.size, 0, none⟩) 1 1, .slice (some ⟨wo.heap.size + 1, 0, none⟩) 1 1] 25)).alloc (.cells #[.int .u8 47, .int .u8 108, .int .u8 47, .int .u8 a, .int .u8 b] 5)) := (((((Below.refl wo.heap.size wo).alloc (by simp <;> omega) (.cells #[.string ⟨#[108]⟩] 9)).alloc (by simp <;> omega) (.cells #[.int .i64 6, .int .i64 0, .string ⟨#[]⟩, .slice none 0 0, .slice Aw i cw] 25)).alloc (by simp <;> omega) (.cells #[.int .i64 7, .int .i64 0, .string ⟨#[]⟩, .slice (some ⟨wo.heap.size, 0, none⟩) 1 1, .slice (some ⟨wo.heap.size + 1, 0, none⟩) 1 1] 25)).alloc (by simp <;> omega) (.cells #[.int .u8 47, .int .u8 108, .int .u8 47, .int .u8 a, .int .u8 b] 5))
      have hws : w.heap.size + 1 ≤ wo.heap.size := hI.out.2.2.2
      have hbw2 : Below w.heap.size w ((((wo.alloc (.cells #[.string ⟨#[108]⟩] 9)).alloc (.cells #[.int .i64 6, .int .i64 0, .string ⟨#[]⟩, .slice none 0 0, .slice Aw i cw] 25)).alloc (.cells #[.int .i64 7, .int .i64 0, .string ⟨#[]⟩, .slice (some ⟨wo.heap.size, 0, none⟩) 1 1, .slice (some ⟨wo.heap.size + 1, 0, none⟩) 1 1] 25)).alloc (.cells #[.int .u8 47, .int .u8 108, .int .u8 47, .int .u8 a, .int .u8 b] 5)) := hI.out.2.2.1.trans (hbw.mono (by omega))
      have hnd : NdIs ((((wo.alloc (.cells #[.string ⟨#[108]⟩] 9)).alloc (.cells #[.int .i64 6, .int .i64 0, .string ⟨#[]⟩, .slice none 0 0, .slice Aw i cw] 25)).alloc (.cells #[.int .i64 7, .int .i64 0, .string ⟨#[]⟩, .slice (some ⟨wo.heap.size, 0, none⟩) 1 1, .slice (some ⟨wo.heap.size + 1, 0, none⟩) 1 1] 25)).alloc (.cells #[.int .u8 47, .int .u8 108, .int .u8 47, .int .u8 a, .int .u8 b] 5)) ((((wo.alloc (.cells #[.string ⟨#[108]⟩] 9)).alloc (.cells #[.int .i64 6, .int .i64 0, .string ⟨#[]⟩, .slice none 0 0, .slice Aw i cw] 25)).alloc (.cells #[.int .i64 7, .int .i64 0, .string ⟨#[]⟩, .slice (some ⟨wo.heap.size, 0, none⟩) 1 1, .slice (some ⟨wo.heap.size + 1, 0, none⟩) 1 1] 25)).alloc (.cells #[.int .u8 47, .int .u8 108, .int .u8 47, .int .u8 a, .int .u8 b] 5)).heap.size (ndNone i) [.int .i64 7, .int .i64 0, .string ⟨#[]⟩, .slice (some ⟨wo.heap.size, 0, none⟩) 1 1, .slice (some ⟨wo.heap.size + 1, 0, none⟩) 1 1] := by
        have hre : Reads ((((wo.alloc (.cells #[.string ⟨#[108]⟩] 9)).alloc (.cells #[.int .i64 6, .int .i64 0, .string ⟨#[]⟩, .slice none 0 0, .slice Aw i cw] 25)).alloc (.cells #[.int .i64 7, .int .i64 0, .string ⟨#[]⟩, .slice (some ⟨wo.heap.size, 0, none⟩) 1 1, .slice (some ⟨wo.heap.size + 1, 0, none⟩) 1 1] 25)).alloc (.cells #[.int .u8 47, .int .u8 108, .int .u8 47, .int .u8 a, .int .u8 b] 5)) ((((wo.alloc (.cells #[.string ⟨#[108]⟩] 9)).alloc (.cells #[.int .i64 6, .int .i64 0, .string ⟨#[]⟩, .slice none 0 0, .slice Aw i cw] 25)).alloc (.cells #[.int .i64 7, .int .i64 0, .string ⟨#[]⟩, .slice (some ⟨wo.heap.size, 0, none⟩) 1 1, .slice (some ⟨wo.heap.size + 1, 0, none⟩) 1 1] 25)).alloc (.cells #[.int .u8 47, .int .u8 108, .int .u8 47, .int .u8 a, .int .u8 b] 5)).heap.size 5 Aw (numsN i).length (numsC i) := by
          rw [numsN_len]
          exact ((own_readsP hI.out.1).below hbw).more hbw.size
        unfold ndNone
        exact NdIs.lit rfl rfl (Reads.of_blk hb0 (by omega) rfl) (Reads.of_blk hb1 (by omega) rfl) (NdsIs.cons (NdIs.lit (K := none) rfl (numsN_len i).symm Reads.none_ hre (numsN_is _ _ i (by omega)) (by unfold I64; omega) (by simp) (by simp) (by rw [numsN_len]; omega)) NdsIs.nil_) (by unfold I64; omega) (by intro s hs; simp at hs; subst hs; decide) (by simp) (by simp)
      have kc : (convert 36 9 (.slice (some ⟨wo.heap.size + 1 + 1 + 1, 0, none⟩) 5 5)).run Tryd.prog ((((wo.alloc (.cells #[.string ⟨#[108]⟩] 9)).alloc (.cells #[.int .i64 6, .int .i64 0, .string ⟨#[]⟩, .slice none 0 0, .slice Aw i cw] 25)).alloc (.cells #[.int .i64 7, .int .i64 0, .string ⟨#[]⟩, .slice (some ⟨wo.heap.size, 0, none⟩) 1 1, .slice (some ⟨wo.heap.size + 1, 0, none⟩) 1 1] 25)).alloc (.cells #[.int .u8 47, .int .u8 108, .int .u8 47, .int .u8 a, .int .u8 b] 5)) = .ok (.string (atN a b)) ((((wo.alloc (.cells #[.string ⟨#[108]⟩] 9)).alloc (.cells #[.int .i64 6, .int .i64 0, .string ⟨#[]⟩, .slice none 0 0, .slice Aw i cw] 25)).alloc (.cells #[.int .i64 7, .int .i64 0, .string ⟨#[]⟩, .slice (some ⟨wo.heap.size, 0, none⟩) 1 1, .slice (some ⟨wo.heap.size + 1, 0, none⟩) 1 1] 25)).alloc (.cells #[.int .u8 47, .int .u8 108, .int .u8 47, .int .u8 a, .int .u8 b] 5)) := by
        have := conv_new (((wo.alloc (.cells #[.string ⟨#[108]⟩] 9)).alloc (.cells #[.int .i64 6, .int .i64 0, .string ⟨#[]⟩, .slice none 0 0, .slice Aw i cw] 25)).alloc (.cells #[.int .i64 7, .int .i64 0, .string ⟨#[]⟩, .slice (some ⟨wo.heap.size, 0, none⟩) 1 1, .slice (some ⟨wo.heap.size + 1, 0, none⟩) 1 1] 25)) 36 9 5 Tryd.underlying36 Tryd.underlying5 Tryd.underlying9 [47, 108, 47, a, b] (0, 0) 5
        rw [hbz3] at this
        exact this
      have HG0 : Hid (∀ w', Below ((((wo.alloc (.cells #[.string ⟨#[108]⟩] 9)).alloc (.cells #[.int .i64 6, .int .i64 0, .string ⟨#[]⟩, .slice none 0 0, .slice Aw i cw] 25)).alloc (.cells #[.int .i64 7, .int .i64 0, .string ⟨#[]⟩, .slice (some ⟨wo.heap.size, 0, none⟩) 1 1, .slice (some ⟨wo.heap.size + 1, 0, none⟩) 1 1] 25)).alloc (.cells #[.int .u8 47, .int .u8 108, .int .u8 47, .int .u8 a, .int .u8 b] 5)).heap.size ((((wo.alloc (.cells #[.string ⟨#[108]⟩] 9)).alloc (.cells #[.int .i64 6, .int .i64 0, .string ⟨#[]⟩, .slice none 0 0, .slice Aw i cw] 25)).alloc (.cells #[.int .i64 7, .int .i64 0, .string ⟨#[]⟩, .slice (some ⟨wo.heap.size, 0, none⟩) 1 1, .slice (some ⟨wo.heap.size + 1, 0, none⟩) 1 1] 25)).alloc (.cells #[.int .u8 47, .int .u8 108, .int .u8 47, .int .u8 a, .int .u8 b] 5)) w' → Calls Tryd.prog 13 #[.agg #[.int .i64 7, .int .i64 0, .string ⟨#[]⟩, .slice (some ⟨wo.heap.size, 0, none⟩) 1 1, .slice (some ⟨wo.heap.size + 1, 0, none⟩) 1 1], .string (atN a b)] w' (GetErr 7 w')) := fun w' h' => by
        have := pGet_any (ndNone i) (atN a b) _ w' _ (hnd.below h') h'.size (ndNone_size i (by omega)).1 (ndNone_size i (by omega)).2 (by unfold atN; rw [strOfNums_size]; simp) ((HM.out.below hbw2).below h')
        rw [none0 i k1 a b HA1.out HB1.out] at this
        exact this.mono fun e w' h => GetErr.of h
      have HG1 : Hid (∀ w', Below ((((wo.alloc (.cells #[.string ⟨#[108]⟩] 9)).alloc (.cells #[.int .i64 6, .int .i64 0, .string ⟨#[]⟩, .slice none 0 0, .slice Aw i cw] 25)).alloc (.cells #[.int .i64 7, .int .i64 0, .string ⟨#[]⟩, .slice (some ⟨wo.heap.size, 0, none⟩) 1 1, .slice (some ⟨wo.heap.size + 1, 0, none⟩) 1 1] 25)).alloc (.cells #[.int .u8 47, .int .u8 108, .int .u8 47, .int .u8 a, .int .u8 b] 5)).heap.size ((((wo.alloc (.cells #[.string ⟨#[108]⟩] 9)).alloc (.cells #[.int .i64 6, .int .i64 0, .string ⟨#[]⟩, .slice none 0 0, .slice Aw i cw] 25)).alloc (.cells #[.int .i64 7, .int .i64 0, .string ⟨#[]⟩, .slice (some ⟨wo.heap.size, 0, none⟩) 1 1, .slice (some ⟨wo.heap.size + 1, 0, none⟩) 1 1] 25)).alloc (.cells #[.int .u8 47, .int .u8 108, .int .u8 47, .int .u8 a, .int .u8 b] 5)) w' → Calls Tryd.prog 13 #[.agg #[.int .i64 7, .int .i64 0, .string ⟨#[]⟩, .slice (some ⟨wo.heap.size, 0, none⟩) 1 1, .slice (some ⟨wo.heap.size + 1, 0, none⟩) 1 1], .string ⟨#[47, 109]⟩] w' (GetErr 7 w')) := fun w' h' => by
        have := pGet_any (ndNone i) ⟨#[47, 109]⟩ _ w' _ (hnd.below h') h'.size (ndNone_size i (by omega)).1 (ndNone_size i (by omega)).2 (by decide) ((HM.out.below hbw2).below h')
        rw [none1 i k1] at this
        exact this.mono fun e w' h => GetErr.of h
      have HG2 : Hid (∀ w', Below ((((wo.alloc (.cells #[.string ⟨#[108]⟩] 9)).alloc (.cells #[.int .i64 6, .int .i64 0, .string ⟨#[]⟩, .slice none 0 0, .slice Aw i cw] 25)).alloc (.cells #[.int .i64 7, .int .i64 0, .string ⟨#[]⟩, .slice (some ⟨wo.heap.size, 0, none⟩) 1 1, .slice (some ⟨wo.heap.size + 1, 0, none⟩) 1 1] 25)).alloc (.cells #[.int .u8 47, .int .u8 108, .int .u8 47, .int .u8 a, .int .u8 b] 5)).heap.size ((((wo.alloc (.cells #[.string ⟨#[108]⟩] 9)).alloc (.cells #[.int .i64 6, .int .i64 0, .string ⟨#[]⟩, .slice none 0 0, .slice Aw i cw] 25)).alloc (.cells #[.int .i64 7, .int .i64 0, .string ⟨#[]⟩, .slice (some ⟨wo.heap.size, 0, none⟩) 1 1, .slice (some ⟨wo.heap.size + 1, 0, none⟩) 1 1] 25)).alloc (.cells #[.int .u8 47, .int .u8 108, .int .u8 47, .int .u8 a, .int .u8 b] 5)) w' → Calls Tryd.prog 13 #[.agg #[.int .i64 7, .int .i64 0, .string ⟨#[]⟩, .slice (some ⟨wo.heap.size, 0, none⟩) 1 1, .slice (some ⟨wo.heap.size + 1, 0, none⟩) 1 1], .string ⟨#[47, 108, 47, 48, 47, 120]⟩] w' (GetErr 7 w')) := fun w' h' => by
        have := pGet_any (ndNone i) ⟨#[47, 108, 47, 48, 47, 120]⟩ _ w' _ (hnd.below h') h'.size (ndNone_size i (by omega)).1 (ndNone_size i (by omega)).2 (by decide) ((HM.out.below hbw2).below h')
        rw [none2 i k1] at this
        exact this.mono fun e w' h => GetErr.of h
      have HG3 : Hid (∀ w', Below ((((wo.alloc (.cells #[.string ⟨#[108]⟩] 9)).alloc (.cells #[.int .i64 6, .int .i64 0, .string ⟨#[]⟩, .slice none 0 0, .slice Aw i cw] 25)).alloc (.cells #[.int .i64 7, .int .i64 0, .string ⟨#[]⟩, .slice (some ⟨wo.heap.size, 0, none⟩) 1 1, .slice (some ⟨wo.heap.size + 1, 0, none⟩) 1 1] 25)).alloc (.cells #[.int .u8 47, .int .u8 108, .int .u8 47, .int .u8 a, .int .u8 b] 5)).heap.size ((((wo.alloc (.cells #[.string ⟨#[108]⟩] 9)).alloc (.cells #[.int .i64 6, .int .i64 0, .string ⟨#[]⟩, .slice none 0 0, .slice Aw i cw] 25)).alloc (.cells #[.int .i64 7, .int .i64 0, .string ⟨#[]⟩, .slice (some ⟨wo.heap.size, 0, none⟩) 1 1, .slice (some ⟨wo.heap.size + 1, 0, none⟩) 1 1] 25)).alloc (.cells #[.int .u8 47, .int .u8 108, .int .u8 47, .int .u8 a, .int .u8 b] 5)) w' → Calls Tryd.prog 13 #[.agg #[.int .i64 7, .int .i64 0, .string ⟨#[]⟩, .slice (some ⟨wo.heap.size, 0, none⟩) 1 1, .slice (some ⟨wo.heap.size + 1, 0, none⟩) 1 1], .string ⟨#[108]⟩] w' (GetErr 3 w')) := fun w' h' => by
        have := pGet_any (ndNone i) ⟨#[108]⟩ _ w' _ (hnd.below h') h'.size (ndNone_size i (by omega)).1 (ndNone_size i (by omega)).2 (by decide) ((HM.out.below hbw2).below h')
        rw [none3 i k1] at this
        exact this.mono fun e w' h => GetErr.of h
      have HG4 : Hid (∀ w', Below ((((wo.alloc (.cells #[.string ⟨#[108]⟩] 9)).alloc (.cells #[.int .i64 6, .int .i64 0, .string ⟨#[]⟩, .slice none 0 0, .slice Aw i cw] 25)).alloc (.cells #[.int .i64 7, .int .i64 0, .string ⟨#[]⟩, .slice (some ⟨wo.heap.size, 0, none⟩) 1 1, .slice (some ⟨wo.heap.size + 1, 0, none⟩) 1 1] 25)).alloc (.cells #[.int .u8 47, .int .u8 108, .int .u8 47, .int .u8 a, .int .u8 b] 5)).heap.size ((((wo.alloc (.cells #[.string ⟨#[108]⟩] 9)).alloc (.cells #[.int .i64 6, .int .i64 0, .string ⟨#[]⟩, .slice none 0 0, .slice Aw i cw] 25)).alloc (.cells #[.int .i64 7, .int .i64 0, .string ⟨#[]⟩, .slice (some ⟨wo.heap.size, 0, none⟩) 1 1, .slice (some ⟨wo.heap.size + 1, 0, none⟩) 1 1] 25)).alloc (.cells #[.int .u8 47, .int .u8 108, .int .u8 47, .int .u8 a, .int .u8 b] 5)) w' → Calls Tryd.prog 13 #[.agg #[.int .i64 7, .int .i64 0, .string ⟨#[]⟩, .slice (some ⟨wo.heap.size, 0, none⟩) 1 1, .slice (some ⟨wo.heap.size + 1, 0, none⟩) 1 1], .string ⟨#[47, 108, 126, 50]⟩] w' (GetErr 3 w')) := fun w' h' => by
        have := pGet_any (ndNone i) ⟨#[47, 108, 126, 50]⟩ _ w' _ (hnd.below h') h'.size (ndNone_size i (by omega)).1 (ndNone_size i (by omega)).2 (by decide) ((HM.out.below hbw2).below h')
        rw [none4 i k1] at this
        exact this.mono fun e w' h => GetErr.of h
      have HG5 : Hid (∀ w', Below ((((wo.alloc (.cells #[.string ⟨#[108]⟩] 9)).alloc (.cells #[.int .i64 6, .int .i64 0, .string ⟨#[]⟩, .slice none 0 0, .slice Aw i cw] 25)).alloc (.cells #[.int .i64 7, .int .i64 0, .string ⟨#[]⟩, .slice (some ⟨wo.heap.size, 0, none⟩) 1 1, .slice (some ⟨wo.heap.size + 1, 0, none⟩) 1 1] 25)).alloc (.cells #[.int .u8 47, .int .u8 108, .int .u8 47, .int .u8 a, .int .u8 b] 5)).heap.size ((((wo.alloc (.cells #[.string ⟨#[108]⟩] 9)).alloc (.cells #[.int .i64 6, .int .i64 0, .string ⟨#[]⟩, .slice none 0 0, .slice Aw i cw] 25)).alloc (.cells #[.int .i64 7, .int .i64 0, .string ⟨#[]⟩, .slice (some ⟨wo.heap.size, 0, none⟩) 1 1, .slice (some ⟨wo.heap.size + 1, 0, none⟩) 1 1] 25)).alloc (.cells #[.int .u8 47, .int .u8 108, .int .u8 47, .int .u8 a, .int .u8 b] 5)) w' → Calls Tryd.prog 13 #[.agg #[.int .i64 7, .int .i64 0, .string ⟨#[]⟩, .slice (some ⟨wo.heap.size, 0, none⟩) 1 1, .slice (some ⟨wo.heap.size + 1, 0, none⟩) 1 1], .string ⟨#[47, 108, 47, 48, 48]⟩] w' (GetErr 7 w')) := fun w' h' => by
        have := pGet_any (ndNone i) ⟨#[47, 108, 47, 48, 48]⟩ _ w' _ (hnd.below h') h'.size (ndNone_size i (by omega)).1 (ndNone_size i (by omega)).2 (by decide) ((HM.out.below hbw2).below h')
        rw [none5 i k1] at this
        exact this.mono fun e w' h => GetErr.of h
      have HG6 : Hid (∀ w', Below ((((wo.alloc (.cells #[.string ⟨#[108]⟩] 9)).alloc (.cells #[.int .i64 6, .int .i64 0, .string ⟨#[]⟩, .slice none 0 0, .slice Aw i cw] 25)).alloc (.cells #[.int .i64 7, .int .i64 0, .string ⟨#[]⟩, .slice (some ⟨wo.heap.size, 0, none⟩) 1 1, .slice (some ⟨wo.heap.size + 1, 0, none⟩) 1 1] 25)).alloc (.cells #[.int .u8 47, .int .u8 108, .int .u8 47, .int .u8 a, .int .u8 b] 5)).heap.size ((((wo.alloc (.cells #[.string ⟨#[108]⟩] 9)).alloc (.cells #[.int .i64 6, .int .i64 0, .string ⟨#[]⟩, .slice none 0 0, .slice Aw i cw] 25)).alloc (.cells #[.int .i64 7, .int .i64 0, .string ⟨#[]⟩, .slice (some ⟨wo.heap.size, 0, none⟩) 1 1, .slice (some ⟨wo.heap.size + 1, 0, none⟩) 1 1] 25)).alloc (.cells #[.int .u8 47, .int .u8 108, .int .u8 47, .int .u8 a, .int .u8 b] 5)) w' → Calls Tryd.prog 13 #[.agg #[.int .i64 7, .int .i64 0, .string ⟨#[]⟩, .slice (some ⟨wo.heap.size, 0, none⟩) 1 1, .slice (some ⟨wo.heap.size + 1, 0, none⟩) 1 1], .string ⟨#[47, 42]⟩] w' (GetErr 7 w')) := fun w' h' => by
        have := pGet_any (ndNone i) ⟨#[47, 42]⟩ _ w' _ (hnd.below h') h'.size (ndNone_size i (by omega)).1 (ndNone_size i (by omega)).2 (by decide) ((HM.out.below hbw2).below h')
        rw [none6 i k1] at this
        exact this.mono fun e w' h => GetErr.of h
      have HAW : Hid (∀ w', Below ((((wo.alloc (.cells #[.string ⟨#[108]⟩] 9)).alloc (.cells #[.int .i64 6, .int .i64 0, .string ⟨#[]⟩, .slice none 0 0, .slice Aw i cw] 25)).alloc (.cells #[.int .i64 7, .int .i64 0, .string ⟨#[]⟩, .slice (some ⟨wo.heap.size, 0, none⟩) 1 1, .slice (some ⟨wo.heap.size + 1, 0, none⟩) 1 1] 25)).alloc (.cells #[.int .u8 47, .int .u8 108, .int .u8 47, .int .u8 a, .int .u8 b] 5)).heap.size ((((wo.alloc (.cells #[.string ⟨#[108]⟩] 9)).alloc (.cells #[.int .i64 6, .int .i64 0, .string ⟨#[]⟩, .slice none 0 0, .slice Aw i cw] 25)).alloc (.cells #[.int .i64 7, .int .i64 0, .string ⟨#[]⟩, .slice (some ⟨wo.heap.size, 0, none⟩) 1 1, .slice (some ⟨wo.heap.size + 1, 0, none⟩) 1 1] 25)).alloc (.cells #[.int .u8 47, .int .u8 108, .int .u8 47, .int .u8 a, .int .u8 b] 5)) w' → Calls Tryd.prog 12 #[] w' (BoolBel true w')) := fun w' h' => awake9_any w' ((HM.out.below hbw2).below h')
      have HW := Lib.hid hbw2
      have HV : Hid (Blk ((((wo.alloc (.cells #[.string ⟨#[108]⟩] 9)).alloc (.cells #[.int .i64 6, .int .i64 0, .string ⟨#[]⟩, .slice none 0 0, .slice Aw i cw] 25)).alloc (.cells #[.int .i64 7, .int .i64 0, .string ⟨#[]⟩, .slice (some ⟨wo.heap.size, 0, none⟩) 1 1, .slice (some ⟨wo.heap.size + 1, 0, none⟩) 1 1] 25)).alloc (.cells #[.int .u8 47, .int .u8 108, .int .u8 47, .int .u8 a, .int .u8 b] 5)) (wo.heap.size + 2) 25 #[.int .i64 7, .int .i64 0, .string ⟨#[]⟩, .slice (some ⟨wo.heap.size, 0, none⟩) 1 1, .slice (some ⟨wo.heap.size + 1, 0, none⟩) 1 1]) := hb2
      have hzv : ((((wo.alloc (.cells #[.string ⟨#[108]⟩] 9)).alloc (.cells #[.int .i64 6, .int .i64 0, .string ⟨#[]⟩, .slice none 0 0, .slice Aw i cw] 25)).alloc (.cells #[.int .i64 7, .int .i64 0, .string ⟨#[]⟩, .slice (some ⟨wo.heap.size, 0, none⟩) 1 1, .slice (some ⟨wo.heap.size + 1, 0, none⟩) 1 1] 25)).alloc (.cells #[.int .u8 47, .int .u8 108, .int .u8 47, .int .u8 a, .int .u8 b] 5)).heap.size = wo.heap.size + 4 := hbz4
      have HZV := Lib.hid hzv
      obtain ⟨d0, d1, d2, d3, d4⟩ := hI.out.2.1.cells5
      have hwo := hws
      have e0 : (wo.alloc (.cells #[.string ⟨#[108]⟩] 9)).cell? ⟨w.heap.size, 0, none⟩ = some (.int .i64 6) := (World.cell?_alloc_lt _ _ _ (show w.heap.size < wo.heap.size by omega)).trans d0
      have e1 : (wo.alloc (.cells #[.string ⟨#[108]⟩] 9)).cell? ⟨w.heap.size, 1, none⟩ = some (.int .i64 0) := (World.cell?_alloc_lt _ _ _ (show w.heap.size < wo.heap.size by omega)).trans d1
      have e2 : (wo.alloc (.cells #[.string ⟨#[108]⟩] 9)).cell? ⟨w.heap.size, 2, none⟩ = some (.string ⟨#[]⟩) := (World.cell?_alloc_lt _ _ _ (show w.heap.size < wo.heap.size by omega)).trans d2
      have e3 : (wo.alloc (.cells #[.string ⟨#[108]⟩] 9)).cell? ⟨w.heap.size, 3, none⟩ = some (.slice none 0 0) := (World.cell?_alloc_lt _ _ _ (show w.heap.size < wo.heap.size by omega)).trans d3
      have e4 : (wo.alloc (.cells #[.string ⟨#[108]⟩] 9)).cell? ⟨w.heap.size, 4, none⟩ = some (.slice Aw i cw) := (World.cell?_alloc_lt _ _ _ (show w.heap.size < wo.heap.size by omega)).trans d4
      clear hbz1 hbz2 hbz3 hbz4 hb0 hb1 hb2 hb3 hbw hbw2 hnd hzv k1 HK hI hws
      go_upto_region 9 with fail
      generalize ((((wo.alloc (.cells #[.string ⟨#[108]⟩] 9)).alloc (.cells #[.int .i64 6, .int .i64 0, .string ⟨#[]⟩, .slice none 0 0, .slice Aw i cw] 25)).alloc (.cells #[.int .i64 7, .int .i64 0, .string ⟨#[]⟩, .slice (some ⟨wo.heap.size, 0, none⟩) 1 1, .slice (some ⟨wo.heap.size + 1, 0, none⟩) 1 1] 25)).alloc (.cells #[.int .u8 47, .int .u8 108, .int .u8 47, .int .u8 a, .int .u8 b] 5)) = wv at *
      have hz := HZV.out
      clear HZV d0 d1 d2 d3 d4 e0 e1 e2 e3 e4 kc
      have HBB0 : Hid (Below wv.heap.size wv wv) := Below.refl _ _
      obtain ⟨c0, c1, c2, c3, c4⟩ := HV.out.cells5
      go_wp2_with fail
      refine (HG0.out _ HBB0.out : Calls _ _ _ _ _).mono ?_; rintro e u0 ⟨p00, p01, p02, p03, p04, p05, p06, p07, p08, rfl, hw⟩
      clear c0 c1 c2 c3 c4
      have hq := HBB0.out.trans (hw.mono HBB0.out.size)
      have HBB1 : Hid (Below wv.heap.size wv (u0.alloc (.cells #[.int .i64 p00, .int .i64 p01, .string p02, .slice p03 p04 p05, .slice p06 p07 p08] 25))) := hq.alloc hq.size _
      have HV' : Hid (Blk (u0.alloc (.cells #[.int .i64 p00, .int .i64 p01, .string p02, .slice p03 p04 p05, .slice p06 p07 p08] 25)) (wo.heap.size + 2) 25 #[.int .i64 7, .int .i64 0, .string ⟨#[]⟩, .slice (some ⟨wo.heap.size, 0, none⟩) 1 1, .slice (some ⟨wo.heap.size + 1, 0, none⟩) 1 1]) := (HV.out.below hw HV.out.lt).alloc _
      clear HV
      have HV := HV'
      clear HV' hw hq
      obtain ⟨c0, c1, c2, c3, c4⟩ := HV.out.cells5
      go_wp2_with fail
      refine (HG1.out _ HBB1.out : Calls _ _ _ _ _).mono ?_; rintro e u1 ⟨p10, p11, p12, p13, p14, p15, p16, p17, p18, rfl, hw⟩
      clear c0 c1 c2 c3 c4
      have hq := HBB1.out.trans (hw.mono HBB1.out.size)
      have HBB2 : Hid (Below wv.heap.size wv (u1.alloc (.cells #[.int .i64 p10, .int .i64 p11, .string p12, .slice p13 p14 p15, .slice p16 p17 p18] 25))) := hq.alloc hq.size _
      have HV' : Hid (Blk (u1.alloc (.cells #[.int .i64 p10, .int .i64 p11, .string p12, .slice p13 p14 p15, .slice p16 p17 p18] 25)) (wo.heap.size + 2) 25 #[.int .i64 7, .int .i64 0, .string ⟨#[]⟩, .slice (some ⟨wo.heap.size, 0, none⟩) 1 1, .slice (some ⟨wo.heap.size + 1, 0, none⟩) 1 1]) := (HV.out.below hw HV.out.lt).alloc _
      clear HV
      have HV := HV'
      clear HV' hw hq
      obtain ⟨c0, c1, c2, c3, c4⟩ := HV.out.cells5
      go_wp2_with fail
      refine (HG2.out _ HBB2.out : Calls _ _ _ _ _).mono ?_; rintro e u2 ⟨p20, p21, p22, p23, p24, p25, p26, p27, p28, rfl, hw⟩
      clear c0 c1 c2 c3 c4
      have hq := HBB2.out.trans (hw.mono HBB2.out.size)
      have HBB3 : Hid (Below wv.heap.size wv (u2.alloc (.cells #[.int .i64 p20, .int .i64 p21, .string p22, .slice p23 p24 p25, .slice p26 p27 p28] 25))) := hq.alloc hq.size _
      have HV' : Hid (Blk (u2.alloc (.cells #[.int .i64 p20, .int .i64 p21, .string p22, .slice p23 p24 p25, .slice p26 p27 p28] 25)) (wo.heap.size + 2) 25 #[.int .i64 7, .int .i64 0, .string ⟨#[]⟩, .slice (some ⟨wo.heap.size, 0, none⟩) 1 1, .slice (some ⟨wo.heap.size + 1, 0, none⟩) 1 1]) := (HV.out.below hw HV.out.lt).alloc _
      clear HV
      have HV := HV'
      clear HV' hw hq
      obtain ⟨c0, c1, c2, c3, c4⟩ := HV.out.cells5
      go_wp2_with fail
      refine (HG3.out _ HBB3.out : Calls _ _ _ _ _).mono ?_; rintro e u3 ⟨p30, p31, p32, p33, p34, p35, p36, p37, p38, rfl, hw⟩
      clear c0 c1 c2 c3 c4
      have hq := HBB3.out.trans (hw.mono HBB3.out.size)
      have HBB4 : Hid (Below wv.heap.size wv (u3.alloc (.cells #[.int .i64 p30, .int .i64 p31, .string p32, .slice p33 p34 p35, .slice p36 p37 p38] 25))) := hq.alloc hq.size _
      have HV' : Hid (Blk (u3.alloc (.cells #[.int .i64 p30, .int .i64 p31, .string p32, .slice p33 p34 p35, .slice p36 p37 p38] 25)) (wo.heap.size + 2) 25 #[.int .i64 7, .int .i64 0, .string ⟨#[]⟩, .slice (some ⟨wo.heap.size, 0, none⟩) 1 1, .slice (some ⟨wo.heap.size + 1, 0, none⟩) 1 1]) := (HV.out.below hw HV.out.lt).alloc _
      clear HV
      have HV := HV'
      clear HV' hw hq
      obtain ⟨c0, c1, c2, c3, c4⟩ := HV.out.cells5
      go_wp2_with fail
      refine (HG4.out _ HBB4.out : Calls _ _ _ _ _).mono ?_; rintro e u4 ⟨p40, p41, p42, p43, p44, p45, p46, p47, p48, rfl, hw⟩
      clear c0 c1 c2 c3 c4
      have hq := HBB4.out.trans (hw.mono HBB4.out.size)
      have HBB5 : Hid (Below wv.heap.size wv (u4.alloc (.cells #[.int .i64 p40, .int .i64 p41, .string p42, .slice p43 p44 p45, .slice p46 p47 p48] 25))) := hq.alloc hq.size _
      have HV' : Hid (Blk (u4.alloc (.cells #[.int .i64 p40, .int .i64 p41, .string p42, .slice p43 p44 p45, .slice p46 p47 p48] 25)) (wo.heap.size + 2) 25 #[.int .i64 7, .int .i64 0, .string ⟨#[]⟩, .slice (some ⟨wo.heap.size, 0, none⟩) 1 1, .slice (some ⟨wo.heap.size + 1, 0, none⟩) 1 1]) := (HV.out.below hw HV.out.lt).alloc _
      clear HV
      have HV := HV'
      clear HV' hw hq
      obtain ⟨c0, c1, c2, c3, c4⟩ := HV.out.cells5
      go_wp2_with fail
      refine (HG5.out _ HBB5.out : Calls _ _ _ _ _).mono ?_; rintro e u5 ⟨p50, p51, p52, p53, p54, p55, p56, p57, p58, rfl, hw⟩
      clear c0 c1 c2 c3 c4
      have hq := HBB5.out.trans (hw.mono HBB5.out.size)
      have HBB6 : Hid (Below wv.heap.size wv (u5.alloc (.cells #[.int .i64 p50, .int .i64 p51, .string p52, .slice p53 p54 p55, .slice p56 p57 p58] 25))) := hq.alloc hq.size _
      have HV' : Hid (Blk (u5.alloc (.cells #[.int .i64 p50, .int .i64 p51, .string p52, .slice p53 p54 p55, .slice p56 p57 p58] 25)) (wo.heap.size + 2) 25 #[.int .i64 7, .int .i64 0, .string ⟨#[]⟩, .slice (some ⟨wo.heap.size, 0, none⟩) 1 1, .slice (some ⟨wo.heap.size + 1, 0, none⟩) 1 1]) := (HV.out.below hw HV.out.lt).alloc _
      clear HV
      have HV := HV'
      clear HV' hw hq
      obtain ⟨c0, c1, c2, c3, c4⟩ := HV.out.cells5
      go_wp2_with fail
      refine (HG6.out _ HBB6.out : Calls _ _ _ _ _).mono ?_; rintro e u6 ⟨p60, p61, p62, p63, p64, p65, p66, p67, p68, rfl, hw⟩
      clear c0 c1 c2 c3 c4
      have hq := HBB6.out.trans (hw.mono HBB6.out.size)
      have HBB7 : Hid (Below wv.heap.size wv (u6.alloc (.cells #[.int .i64 p60, .int .i64 p61, .string p62, .slice p63 p64 p65, .slice p66 p67 p68] 25))) := hq.alloc hq.size _
      have HV' : Hid (Blk (u6.alloc (.cells #[.int .i64 p60, .int .i64 p61, .string p62, .slice p63 p64 p65, .slice p66 p67 p68] 25)) (wo.heap.size + 2) 25 #[.int .i64 7, .int .i64 0, .string ⟨#[]⟩, .slice (some ⟨wo.heap.size, 0, none⟩) 1 1, .slice (some ⟨wo.heap.size + 1, 0, none⟩) 1 1]) := (HV.out.below hw HV.out.lt).alloc _
      clear HV
      have HV := HV'
      clear HV' hw hq
      go_wp2_with (first
        | (go_at_call 16; refine (num9_l3 _ _).mono ?_; rintro e w2 ⟨rfl, hw⟩; obtain rfl : _ = w2 := hw)
        | (go_at_call 12; refine (HAW.out _ HBB7.out : Calls _ _ _ _ _).mono ?_; rintro e w2 ⟨rfl, hw⟩; have HE := Lib.hid (HBB7.out.trans (hw.mono HBB7.out.size)); clear hw))
      go_ret
      exact ⟨rfl, HW.out.trans (HE.out.mono HW.out.size)⟩
end Go.Proofs.YtnbfagignbbmfaaDoor
