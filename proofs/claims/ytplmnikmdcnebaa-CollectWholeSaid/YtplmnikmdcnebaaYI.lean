/-
  Feed, as a function of values.
-/
import Derived.Test.YtplmnikmdcnebaaYH
set_option linter.unusedVariables false
set_option linter.unusedSimpArgs false
namespace Go.Proofs.Ytplmnikmdcnebaa
open Go Go.Xec

open Classical in
noncomputable def F8 : List AVal → Option AVal
  | [.agg [.int .i64 s, .int .i64 lo, .int .i64 hi, a], b] => match rowI a, rowI b with
    | some h, some l => if h.length ≤ 1000 ∧ l.length ≤ 1000 then
        some (if grpOk s lo hi h then .tup [G s lo hi (qv s lo hi a h l).a, rowsV (qv s lo hi a h l).rows, .int .i64 (qv s lo hi a h l).n, .int .i64 0] else .tup [G0, .nils, .int .i64 0, .int .i64 1]) else none
    | _, _ => none
  | _ => none
theorem F8_ok {s lo hi : Int} {a b : AVal} {h l : List Int} (ha : Rw a h) (hb : Rw b l) (h1 : h.length ≤ 1000) (h2 : l.length ≤ 1000) (hg : grpOk s lo hi h) : F8 [G s lo hi a, b] =
    some (.tup [G s lo hi (qv s lo hi a h l).a, rowsV (qv s lo hi a h l).rows, .int .i64 (qv s lo hi a h l).n, .int .i64 0]) := by
  simp only [F8, rowI_eq ha, rowI_eq hb]
  rw [if_pos ⟨h1, h2⟩, if_pos hg]
theorem F8_no {s lo hi : Int} {a b : AVal} {h l : List Int} (ha : Rw a h) (hb : Rw b l) (h1 : h.length ≤ 1000) (h2 : l.length ≤ 1000) (hg : ¬ grpOk s lo hi h) : F8 [G s lo hi a, b] = some (.tup [G0, .nils, .int .i64 0, .int .i64 1]) := by
  simp only [F8, rowI_eq ha, rowI_eq hb]
  rw [if_pos ⟨h1, h2⟩, if_neg hg]
theorem sound8 : Sound Try.prog 8 F8 := sound_at ok5 1 fun xs r e => by
  unfold F8 at e
  split at e
  · split at e
    · rename_i h1 h2
      split at e
      · rename_i hc
        cases e
        split
        · rename_i hg
          exact step8 (rowI_inv h1) (rowI_inv h2) hc.1 hc.2 hg
        · rename_i hg
          exact step8_no (rowI_inv h1) (rowI_inv h2) hc.1 hc.2 hg
      · cases e
    · cases e
  · cases e
end Go.Proofs.Ytplmnikmdcnebaa
