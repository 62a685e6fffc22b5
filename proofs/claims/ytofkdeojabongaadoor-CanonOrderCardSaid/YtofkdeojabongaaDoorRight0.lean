/- Whether a node may stand within so many others: as a plain function. -/
import Derived.Test.YtofkdeojabongaaDoorBare
namespace Go.Proofs.YtofkdeojabongaaDoor
open Go.RowKit Go.PlainAid
set_option linter.unusedVariables false
set_option linter.unusedSimpArgs false
mutual
/-- whether a node may stand within so many others -/
noncomputable def rightN (most : Int) (nest : Int) : Nd → Int → Bool
  | .mk k num t ks ns, deep => bareF k num t ks.length ns.length &&
    (k == 1 || k == 2 || k == 3 || (k == 4 && decide (-most ≤ num ∧ num ≤ most)) || (k == 5 && validB t.toList) ||
      ((k == 6 || k == 7) && decide (deep < nest) && (k == 6 || (decide (ks.length = ns.length) && keysB ks)) && rightL most nest ns (deep + 1)))
noncomputable def rightL (most : Int) (nest : Int) : List Nd → Int → Bool
  | [], _ => true
  | n :: ns, deep => rightN most nest n deep && rightL most nest ns deep
end
theorem rightL_all (most nest : Int) (ns : List Nd) (deep : Int) : rightL most nest ns deep = ns.all (fun n => rightN most nest n deep) := by
  induction ns with
  | nil => unfold rightL; rfl
  | cons n ns ih => unfold rightL; rw [ih]; rfl
theorem rightL_bad (most nest : Int) (ns : List Nd) (deep : Int) (i : Nat) (n : Nd) (h : ns[i]? = some n) (hb : rightN most nest n deep = false) : rightL most nest ns deep = false := by
  rw [rightL_all, List.all_eq_false]
  exact ⟨n, List.mem_of_getElem? h, by simp [hb]⟩
end Go.Proofs.YtofkdeojabongaaDoor
