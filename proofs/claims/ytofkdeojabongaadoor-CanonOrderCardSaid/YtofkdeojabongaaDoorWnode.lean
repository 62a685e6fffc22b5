/- The walks of the writer's node and kids. -/
import Derived.Test.YtofkdeojabongaaDoorWtext
import Derived.Test.YtofkdeojabongaaDoorNode3
import Derived.Test.YtofkdeojabongaaDoorText2
namespace Go.Proofs.YtofkdeojabongaaDoor
open Go.RowKit Go.PlainAid
set_option linter.unusedVariables false
set_option linter.unusedSimpArgs false
mutual
/-- what a writer holds behind a node, given what it holds ahead of it -/
def outN : Nd → List UInt8 → List UInt8
  | .mk k num t ks ns, acc =>
    if 65536 < acc.length then acc else if k = 1 then acc ++ [110, 117, 108, 108] else if k = 2 then acc ++ [102, 97, 108, 115, 101] else if k = 3 then acc ++ [116, 114, 117, 101]
    else if k = 4 then acc ++ Lib.itoa num else if k = 5 then acc ++ quoteU t.toList else if k = 6 then outL (k == 7) ks ns true (acc ++ [91]) ++ [93] else outL (k == 7) ks ns true (acc ++ [123]) ++ [125]
def outL : Bool → List ByteArray → List Nd → Bool → List UInt8 → List UInt8
  | _, _, [], _, acc => acc
  | obj, ks, n :: ns, first, acc => outL obj ks.tail ns false (outN n ((if first = true then acc else acc ++ [44]) ++ (if obj = true then quoteU (ks.headD ⟨#[]⟩).toList ++ [58] else [])))
end
mutual
/-- how much a node may add at most -/
def gN : Nd → Nat
  | .mk _ _ t ks ns => 40 + 6 * t.size + gL ks ns
def gL : List ByteArray → List Nd → Nat
  | _, [] => 0
  | ks, n :: ns => 10 + 6 * (ks.headD ⟨#[]⟩).size + gN n + gL ks.tail ns
end
theorem quoteU_le (t : List UInt8) : (quoteU t).length ≤ 2 + 6 * t.length := by
  unfold quoteU
  have := flat_le t
  simp only [List.length_append, List.length_cons, List.length_nil]; omega
theorem tl_len' (s : ByteArray) : s.toList.length = s.size := by rw [ByteArray.toList_eq]; simp
mutual
/-- an object has as many keys as kids, and a number that an int64 holds, at every depth -/
def goodN : Nd → Prop
  | .mk k num t ks ns => (-9223372036854775808 ≤ num ∧ num ≤ 9223372036854775807) ∧ (k = 7 → ks.length = ns.length) ∧ t.size ≤ 1000000000 ∧ (∀ s ∈ ks, s.size ≤ 1000000000) ∧ goodL ns
def goodL : List Nd → Prop
  | [] => True
  | n :: ns => goodN n ∧ goodL ns
end
mutual
theorem outN_le : ∀ (n : Nd) (acc : List UInt8), goodN n → (outN n acc).length ≤ acc.length + gN n
  | .mk k num t ks ns, acc, hi => by
    unfold outN gN
    unfold goodN at hi
    have hq := quoteU_le t.toList
    rw [tl_len'] at hq
    have h4 := Lib.itoa_length_le num hi.1.1 hi.1.2
    have h6 := outL_le (k == 7) ks ns true (acc ++ [91]) hi.2.2.2.2
    have h7 := outL_le (k == 7) ks ns true (acc ++ [123]) hi.2.2.2.2
    simp only [List.length_append, List.length_cons, List.length_nil] at h6 h7
    repeat' split
    all_goals first | omega | (simp only [List.length_append, List.length_cons, List.length_nil]; omega)
theorem outL_le : ∀ (obj : Bool) (ks : List ByteArray) (ns : List Nd) (first : Bool) (acc : List UInt8), goodL ns → (outL obj ks ns first acc).length ≤ acc.length + gL ks ns
  | obj, ks, [], first, acc, hi => by unfold outL gL; omega
  | obj, ks, n :: ns, first, acc, hi => by
    unfold outL gL
    unfold goodL at hi
    have h1 := outL_le obj ks.tail ns false (outN n ((if first = true then acc else acc ++ [44]) ++ (if obj = true then quoteU (ks.headD ⟨#[]⟩).toList ++ [58] else []))) hi.2
    have h2 := outN_le n ((if first = true then acc else acc ++ [44]) ++ (if obj = true then quoteU (ks.headD ⟨#[]⟩).toList ++ [58] else [])) hi.1
    have hq := quoteU_le (ks.headD ⟨#[]⟩).toList
    rw [tl_len'] at hq
    have h3 : ((if first = true then acc else acc ++ [44]) ++ (if obj = true then quoteU (ks.headD ⟨#[]⟩).toList ++ [58] else [])).length ≤ acc.length + 1 + (6 * (ks.headD ⟨#[]⟩).size + 3) := by
      rw [List.length_append]
      have a1 : (if first = true then acc else acc ++ [44]).length ≤ acc.length + 1 := by split <;> simp
      have a2 : (if obj = true then quoteU (ks.headD ⟨#[]⟩).toList ++ [58] else []).length ≤ 6 * (ks.headD ⟨#[]⟩).size + 3 := by
        split
        · rw [List.length_append, List.length_cons, List.length_nil]; omega
        · simp
      omega
    omega
end
theorem outL_at (obj : Bool) (ks : List ByteArray) (ns : List Nd) (i : Nat) (n : Nd) (s : ByteArray) (first : Bool) (acc : List UInt8) (h : ns[i]? = some n) (hs : obj = true → ks[i]? = some s) :
    outL obj (ks.drop i) (ns.drop i) first acc = outL obj (ks.drop (i + 1)) (ns.drop (i + 1)) false (outN n ((if first = true then acc else acc ++ [44]) ++ (if obj = true then quoteU s.toList ++ [58] else []))) := by
  rw [List.drop_eq_getElem_cons (List.getElem?_eq_some_iff.1 h).1, (List.getElem?_eq_some_iff.1 h).2]
  conv => lhs; unfold outL
  have ht : (ks.drop i).tail = ks.drop (i + 1) := by rw [List.tail_drop]
  rw [ht]
  cases obj with
  | false => rfl
  | true =>
    have hk := hs rfl
    have hh : (ks.drop i).headD ⟨#[]⟩ = s := by
      rw [List.drop_eq_getElem_cons (List.getElem?_eq_some_iff.1 hk).1, (List.getElem?_eq_some_iff.1 hk).2]; rfl
    rw [hh]
theorem gL_at (ks : List ByteArray) (ns : List Nd) (i : Nat) (n : Nd) (h : ns[i]? = some n) : gL (ks.drop i) (ns.drop i) = 10 + 6 * ((ks.drop i).headD ⟨#[]⟩).size + gN n + gL (ks.drop (i + 1)) (ns.drop (i + 1)) := by
  rw [List.drop_eq_getElem_cons (List.getElem?_eq_some_iff.1 h).1, (List.getElem?_eq_some_iff.1 h).2]
  conv => lhs; unfold gL
  rw [List.tail_drop]
theorem goodL_at (ns : List Nd) (i : Nat) (n : Nd) (h : ns[i]? = some n) (hg : goodL ns) : goodN n := by
  induction ns generalizing i with
  | nil => simp at h
  | cons a ns ih =>
    unfold goodL at hg
    cases i with
    | zero => simp at h; subst h; exact hg.1
    | succ i => exact ih i (by simpa using h) hg.2
/-- the library's table lies below block B -/
def TabAt (B : Nat) (w : World) : Prop := ∃ w0, TabOK w0 ∧ w0.heap.size ≤ B ∧ Below w0.heap.size w0 w
theorem TabAt.kept {B b : Nat} {w w' : World} (h : TabAt B w) (k : Kept B b w w') : TabAt B w' := by
  obtain ⟨w0, h1, h2, h3⟩ := h
  exact ⟨w0, h1, h2, h3.trans (k.1.mono h2)⟩
theorem TabAt.ok {B : Nat} {w : World} (h : TabAt B w) : TabOK w := by
  obtain ⟨w0, h1, h2, h3⟩ := h
  exact h1.below h3
theorem full_any (B b : Nat) (l : List UInt8) (w : World) (h : Bld B b (Lib.byteCells l) w) : Calls Tryd.prog 23 #[.pointer (some ⟨b, 0, none⟩)] w fun e w' => e = .returned (.bool (decide (65536 < l.length))) ∧ w = w' := by
  have hc := Len_any B b _ w h
  rw [Lib.byteCells_length] at hc
  have HC := Lib.hid hc
  clear hc
  have hd : decide ((65536 : Int) < (l.length : Int)) = decide (65536 < l.length) := by
    by_cases h : 65536 < l.length
    · rw [decide_eq_true h, decide_eq_true (by omega)]
    · rw [decide_eq_false h, decide_eq_false (by omega)]
  have HD := Lib.hid hd
  clear hd
  go_enter Tryd.func23, Tryd.ntmps23
  go_wp2_with fail
  refine HC.out.mono ?_; rintro e w1 ⟨rfl, hw⟩; obtain rfl : _ = w1 := hw
  go_wp2_with fail
  go_ret
  exact ⟨by rw [← HD.out]; simp, rfl⟩
end Go.Proofs.YtofkdeojabongaaDoor
