/- TreeMade: folded paths, two rows that grow. -/
import Derived.Test.YtlmelclfdafhbaaTreeC3
import Derived.RegionTactic
namespace Go.Proofs.Ytlmelclfdafhbaa
open Go.RowKit Go.PlainAid
set_option linter.unusedVariables false
set_option linter.unusedSimpArgs false
theorem foldT_list (s : ByteArray) : (foldS s).toList = s.toList.map fun c => UInt8.ofNat (foldN (c.toNat : Int)).toNat := by
  have hz : foldZ s s.size = s.toList.map fun c => foldN (c.toNat : Int) := by
    unfold foldZ
    apply List.ext_getElem
    · simp [tlLen]
    · intro i h1 h2
      simp only [List.getElem_map, List.getElem_range]
      rw [bt_eq s i _ (List.getElem?_eq_getElem (by rw [tlLen]; simpa using h1))]
  unfold foldS
  rw [ByteArray.toList_eq, strOfNums_data, hz, List.map_map]
  rfl
theorem good_fold {l : List Bx} {ps : List ByteArray} (h : Good l ps) {k : Nat} (hk : k < l.length) (h1 : 1 ≤ k) : ((foldS (pathAt ps k)).toList == (foldS ⟨#[73, 78, 66, 79, 88]⟩).toList) = false := by
  have h2 : k < ps.length := by rw [h.same]; exact hk
  have b := (h.last k _ (List.getElem?_eq_getElem h2)).1
  rw [pathAt_of (List.getElem?_eq_getElem h2), beq_eq_false_iff_ne]
  intro e
  have e2 := congrArg List.getLast? e
  have h0 := h.few
  rw [foldT_list, foldT_list, List.getLast?_map, List.getLast?_map, b] at e2
  rw [show (⟨#[73, 78, 66, 79, 88]⟩ : ByteArray).toList.getLast? = some 88 by decide +kernel] at e2
  simp only [Option.map_some, Option.some.injEq] at e2
  unfold lastB at e2
  rw [if_neg (by omega)] at e2
  have e3 : (UInt8.ofNat (96 + k)).toNat = 96 + k := by simp; omega
  rw [e3] at e2
  unfold foldN at e2
  rw [if_neg (by omega), if_pos (by decide)] at e2
  have e4 := congrArg UInt8.toNat e2
  simp at e4
  omega
theorem own_ne {w : World} {B s s' n n' : Nat} {e e' : TypeId} {v v' : Value} {xs xs' : List Value} (h : w.ownsRow B e s v n xs) (h' : w.ownsRow B e' s' v' n' xs') (hne : e ≠ e') : v.ownBlock = none ∨ v.ownBlock ≠ v'.ownBlock := by
  rcases h.2 with ⟨rfl, _⟩ | ⟨g, cap, cur, rfl, _, hh, _⟩
  · exact .inl rfl
  · right
    rcases h'.2 with ⟨rfl, _⟩ | ⟨g', cap', cur', rfl, _, hh', _⟩
    · simp [Value.ownBlock]
    · intro he
      have : g = g' := by simpa [Value.ownBlock] using he
      subst this
      exact Blk.ne_ (t := e) hh hh' hne rfl
/-- a box pushed beside a row of texts -/
theorem wpList_pushBox2 (w : World) {ops : Array Oper} {rest : List Oper} {o : Oper} {a : Act} {Q : Exit → Act → World → Prop} (hgd : o.guard = none) (s x : Operand)
    (ho : o.op = .call { callee := .builtin .append, args := #[s, x], argTypes := #[28, 28] })
    (B : Nat) (v : Value) (n : Nat) (xs : List Value) (hs : a.eval s = v) (hown : w.ownsRow B 27 6 v n xs) (v2 : Value) (n2 : Nat) (xs2 : List Value) (hown2 : w.ownsRow B 9 1 v2 n2 xs2) (b : Bx)
    (hx : a.eval x = .slice (some ⟨w.heap.size, 0, none⟩) 1 1)
    (hlim : n + 1 ≤ 1000000000) (hB : B ≤ w.heap.size)
    (h : ∀ v' w', w'.ownsRow B 27 6 v' (n + 1) (xs ++ cellsB b) → w'.ownsRow B 9 1 v2 n2 xs2 → Below B w w' → wpList Try.prog ops Q rest (a.put o.dst v') w') :
    wpList Try.prog ops Q (o :: rest) a (w.alloc (.cells #[.int .i64 b.id, .string b.name, .int .i64 b.par, .int .i64 0, .int .i64 0, .int .i64 0] 27)) := by
  obtain ⟨i0, hi0, hz0, hz1, hz2⟩ := info_parts boxInfo
  have hr : Reads (w.alloc (.cells #[.int .i64 b.id, .string b.name, .int .i64 b.par, .int .i64 0, .int .i64 0, .int .i64 0] 27)) (w.heap.size + 1) 6 (some ⟨w.heap.size, 0, none⟩) 1 (cellsB b) := by
    refine ⟨rfl, fun _ => ⟨_, rfl, by simp, fun j u hj => ?_⟩⟩
    have e : (⟨w.heap.size, 0, none⟩ : Addr).add j = ⟨w.heap.size, j, none⟩ := by unfold Addr.add; split <;> simp_all
    rw [e, World.cell?_alloc_mark]
    simpa [cellsB] using hj
  refine wpList_plain hgd fun K hK => ?_
  obtain ⟨v', w', h1, h2, h3, h4⟩ := run_append_any (P := Try.prog) _ B 28 o.type 27 i0 _ 6 56 Try.underlying28 hi0 hz0 hz1 hz2 rfl (by omega) v n _ (World.ownsRow.alloc hown _) (w.heap.size + 1) _ 1 1 _ hr
    (fun u hu => by simp [cellsB] at hu; rcases hu with rfl | rfl | rfl | rfl <;> rfl) (by simp only [maxLen]; omega) (by omega) (by simp; omega)
  unfold Oper.wp execOp
  simp only [ho, resolve, invoke, builtin, Sem.run_bind, Sem.run_pure, Result.andThen_ok, List.map_toArray, List.map_cons, List.map_nil, hs, hx, h1]
  refine hK _ _ (h v' w' h2 ?_ ?_)
  · exact (World.ownsRow.alloc hown2 _).kept h3 (own_ne hown2 hown (by decide))
  · exact ((Below.refl B w).alloc hB _).grown h3 (by simp; omega) (fun g hg => (own_lt hown hg).1)
/-- a text pushed beside a row of boxes -/
theorem wpList_pushStr2 (w : World) {ops : Array Oper} {rest : List Oper} {o : Oper} {a : Act} {Q : Exit → Act → World → Prop} (hgd : o.guard = none) (s x : Operand)
    (ho : o.op = .call { callee := .builtin .append, args := #[s, x], argTypes := #[29, 29] })
    (B : Nat) (v : Value) (n : Nat) (xs : List Value) (hs : a.eval s = v) (hown : w.ownsRow B 9 1 v n xs) (v2 : Value) (n2 : Nat) (xs2 : List Value) (hown2 : w.ownsRow B 27 6 v2 n2 xs2) (t : ByteArray)
    (hx : a.eval x = .slice (some ⟨w.heap.size, 0, none⟩) 1 1)
    (hlim : n + 1 ≤ 1000000000) (hB : B ≤ w.heap.size)
    (h : ∀ v' w', w'.ownsRow B 9 1 v' (n + 1) (xs ++ [.string t]) → w'.ownsRow B 27 6 v2 n2 xs2 → Below B w w' → wpList Try.prog ops Q rest (a.put o.dst v') w') :
    wpList Try.prog ops Q (o :: rest) a (w.alloc (.cells #[.string t] 9)) :=
  wpList_pushStr w hgd s x ho B v n xs hs hown t hx (by omega) hB fun v' w' h1 h2 h3 => h v' w' h1 ((World.ownsRow.alloc hown2 _).kept h2 (own_ne hown2 hown (by decide))) (((Below.refl B w).alloc hB _).grown h2 (by simp; omega) (fun g hg => (own_lt hown hg).1))
theorem own_reads {w : World} {B s n c : Nat} {e : TypeId} {A : Option Addr} {xs : List Value} (h : w.ownsRow B e s (.slice A n c) n xs) : Reads w w.heap.size s A n xs := by
  refine ⟨h.1, fun hn => ?_⟩
  obtain ⟨g, cap, hv, _, hlt⟩ := World.ownsRow.form h hn
  injection hv with e1 _ _
  subst e1
  exact ⟨_, rfl, hlt, fun j u hj => World.ownsRow.cells h rfl j u hj⟩
def nmS (m : Nat) : ByteArray := strOfNums [110, 97 + (m : Int)]
theorem nmS_last (m : Nat) (hm : m ≤ 20) : (nmS m).toList.getLast? = some (lastB (m + 1)) ∧ (nmS m).size = 2 := by
  refine ⟨?_, by unfold nmS; rw [strOfNums_size]; rfl⟩
  unfold nmS lastB
  rw [ByteArray.toList_eq, strOfNums_data, if_neg (by omega)]
  show some (UInt8.ofNat ((97 : Int) + (m : Int)).toNat) = some (UInt8.ofNat (96 + (m + 1)))
  rw [show ((97 : Int) + (m : Int)).toNat = 96 + (m + 1) by omega]
theorem nm_conv (w : World) (m c : Nat) : (convert 25 9 (.slice (some ⟨w.heap.size, 0, none⟩) 2 c)).run Try.prog (w.alloc (.cells #[.int .u8 110, .int .u8 (97 + (m : Int))] 5)) = .ok (.string (nmS m)) (w.alloc (.cells #[.int .u8 110, .int .u8 (97 + (m : Int))] 5)) := by
  have hb := Blk.new w 5 #[.int .u8 110, .int .u8 (97 + (m : Int))]
  have hr : RowF (w.alloc (.cells #[.int .u8 110, .int .u8 (97 + (m : Int))] 5)) w.heap.size 2 (fun j => if j = 0 then 110 else 97 + (m : Int)) := fun j hj => by
    refine ⟨?_, hb.frozen _⟩
    rw [hb.cell]
    match j, hj with
    | 0, _ => rfl
    | 1, _ => rfl
  exact hr.conv c
end Go.Proofs.Ytlmelclfdafhbaa
