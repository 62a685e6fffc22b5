/- A value's text as a plain function, and what the writer with its limit has of it. -/
import Derived.Test.YtofkdeojabongaaDoorRq
import Derived.Test.YtofkdeojabongaaDoorRref
namespace Go.Proofs.YtofkdeojabongaaDoor
open Go.RowKit Go.PlainAid
set_option linter.unusedVariables false
set_option linter.unusedSimpArgs false
mutual
/-- a value's text -/
def putU : Nd → List UInt8
  | .mk k num t ks ns =>
    if k = 1 then [110, 117, 108, 108] else if k = 2 then [102, 97, 108, 115, 101] else if k = 3 then [116, 114, 117, 101]
    else if k = 4 then Lib.itoa num else if k = 5 then quoteU t.toList else if k = 6 then [91] ++ putL (k == 7) ks ns true ++ [93] else [123] ++ putL (k == 7) ks ns true ++ [125]
def putL : Bool → List ByteArray → List Nd → Bool → List UInt8
  | _, _, [], _ => []
  | obj, ks, n :: ns, first => (if first = true then [] else [44]) ++ (if obj = true then quoteU (ks.headD ⟨#[]⟩).toList ++ [58] else []) ++ putU n ++ putL obj ks.tail ns false
end
/-- what a writer that stops behind its limit has of a text -/
def Cutted (a full : List UInt8) : Prop := a = full ∨ (65536 < a.length ∧ a.length ≤ full.length)
theorem Cutted.app {a f : List UInt8} (h : Cutted a f) (x : List UInt8) : Cutted (a ++ x) (f ++ x) := by
  rcases h with rfl | ⟨h1, h2⟩
  · exact .inl rfl
  · exact .inr ⟨by simp; omega, by simp; omega⟩
theorem Cutted.stop {a f : List UInt8} (h : Cutted a f) (hl : 65536 < a.length) (x : List UInt8) : Cutted a (f ++ x) := by
  rcases h with rfl | ⟨h1, h2⟩
  · exact .inr ⟨hl, by simp⟩
  · exact .inr ⟨h1, by simp; omega⟩
mutual
theorem outN_cut : ∀ (n : Nd) (a f : List UInt8), Cutted a f → Cutted (outN n a) (f ++ putU n)
  | .mk k num t ks ns, a, f, h => by
    unfold outN
    by_cases hl : 65536 < a.length
    · rw [if_pos hl]; exact h.stop hl _
    rw [if_neg hl]
    unfold putU
    split
    · exact h.app _
    split
    · exact h.app _
    split
    · exact h.app _
    split
    · exact h.app _
    split
    · exact h.app _
    split
    · have := (outL_cut (k == 7) ks ns true _ _ (h.app [91])).app [93]
      simpa using this
    · have := (outL_cut (k == 7) ks ns true _ _ (h.app [123])).app [125]
      simpa using this
theorem outL_cut : ∀ (obj : Bool) (ks : List ByteArray) (ns : List Nd) (first : Bool) (a f : List UInt8), Cutted a f → Cutted (outL obj ks ns first a) (f ++ putL obj ks ns first)
  | obj, ks, [], first, a, f, h => by unfold outL putL; simpa using h
  | obj, ks, n :: ns, first, a, f, h => by
    unfold outL putL
    have h1 : Cutted ((if first = true then a else a ++ [44]) ++ (if obj = true then quoteU (ks.headD ⟨#[]⟩).toList ++ [58] else [])) ((f ++ (if first = true then [] else [44])) ++ (if obj = true then quoteU (ks.headD ⟨#[]⟩).toList ++ [58] else [])) := by
      refine Cutted.app ?_ _
      split
      · simpa using h
      · exact h.app _
    have h2 := outL_cut obj ks.tail ns false _ _ (outN_cut n _ _ h1)
    simpa using h2
end
theorem cut_len {a f : List UInt8} (h : Cutted a f) : (65536 < a.length ↔ 65536 < f.length) ∧ (¬ 65536 < f.length → a = f) := by
  rcases h with rfl | ⟨h1, h2⟩
  · exact ⟨Iff.rfl, fun _ => rfl⟩
  · exact ⟨⟨fun _ => by omega, fun _ => h1⟩, fun h => by omega⟩
theorem outN_put (n : Nd) : Cutted (outN n []) (putU n) := by
  have := outN_cut n [] [] (.inl rfl)
  simpa using this
theorem printS_eq (n : Nd) : printS n = if rightD n 0 = false then ⟨#[]⟩ else if 65536 < (putU n).length then ⟨#[]⟩ else ⟨(putU n).toArray⟩ := by
  unfold printS
  have h := cut_len (outN_put n)
  by_cases hl : 65536 < (putU n).length
  · rw [if_pos (h.1.2 hl), if_pos hl]
  · rw [if_neg (fun x => hl (h.1.1 x)), if_neg hl, h.2 hl]
theorem printE_eq (n : Nd) : printE n = if rightD n 0 = false then 1 else if 65536 < (putU n).length then 2 else 0 := by
  unfold printE
  have h := cut_len (outN_put n)
  by_cases hl : 65536 < (putU n).length
  · rw [if_pos (h.1.2 hl), if_pos hl]
  · rw [if_neg (fun x => hl (h.1.1 x)), if_neg hl]
mutual
theorem putU_le : ∀ (n : Nd), goodN n → (putU n).length ≤ gN n
  | .mk k num t ks ns, hi => by
    unfold putU gN
    unfold goodN at hi
    have hq := quoteU_le t.toList
    rw [tl_len'] at hq
    have h4 := Lib.itoa_length_le num hi.1.1 hi.1.2
    have h6 := putL_le (k == 7) ks ns true hi.2.2.2.2
    repeat' split
    all_goals first | omega | (simp only [List.length_append, List.length_cons, List.length_nil]; omega)
theorem putL_le : ∀ (obj : Bool) (ks : List ByteArray) (ns : List Nd) (first : Bool), goodL ns → (putL obj ks ns first).length ≤ gL ks ns
  | obj, ks, [], first, hi => by unfold putL gL; simp
  | obj, ks, n :: ns, first, hi => by
    unfold putL gL
    unfold goodL at hi
    have h1 := putL_le obj ks.tail ns false hi.2
    have h2 := putU_le n hi.1
    have hq := quoteU_le (ks.headD ⟨#[]⟩).toList
    rw [tl_len'] at hq
    simp only [List.length_append]
    have e1 : (if first = true then ([] : List UInt8) else [44]).length ≤ 1 := by split <;> simp
    have e2 : (if obj = true then quoteU (ks.headD ⟨#[]⟩).toList ++ [58] else []).length ≤ 3 + 6 * (ks.headD ⟨#[]⟩).size := by
      split
      · simp only [List.length_append, List.length_cons, List.length_nil]; omega
      · simp
    omega
end
theorem putL_at (obj : Bool) (ks : List ByteArray) (ns : List Nd) (i : Nat) (n : Nd) (s : ByteArray) (first : Bool) (h : ns[i]? = some n) (hs : obj = true → ks[i]? = some s) :
    putL obj (ks.drop i) (ns.drop i) first = (if first = true then [] else [44]) ++ (if obj = true then quoteU s.toList ++ [58] else []) ++ putU n ++ putL obj (ks.drop (i + 1)) (ns.drop (i + 1)) false := by
  rw [List.drop_eq_getElem_cons (List.getElem?_eq_some_iff.1 h).1, (List.getElem?_eq_some_iff.1 h).2]
  conv => lhs; unfold putL
  rw [List.tail_drop]
  congr 3
  cases obj with
  | false => rfl
  | true =>
    have hs' := hs rfl
    rw [List.drop_eq_getElem_cons (List.getElem?_eq_some_iff.1 hs').1, (List.getElem?_eq_some_iff.1 hs').2]
    rfl
theorem rightLD_get (ns : List Nd) (deep : Int) (i : Nat) (n : Nd) (h : ns[i]? = some n) (hr : rightLD ns deep = true) : rightD n deep = true := by
  unfold rightLD at hr
  rw [rightL_all, List.all_eq_true] at hr
  exact hr n (List.mem_of_getElem? h)
end Go.Proofs.YtofkdeojabongaaDoor
