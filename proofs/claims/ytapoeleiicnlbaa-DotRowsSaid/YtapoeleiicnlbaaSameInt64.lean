/- Rows of whole numbers beside themselves: the same. -/
import Derived.Test.YtapoeleiicnlbaaShape
import Derived.Test.YtapoeleiicnlbaaQx26
namespace Go.Proofs.Ytapoeleiicnlbaa.Plain
open Go.RowKit Go.Proofs.YtapoeleiicnlbaaW.PrintWords Go.Proofs.Ytapoeleiicnlbaa.Q

theorem same_int64_l0 (post : List Int) : ∀ pre : List Int, (pre ++ post).length < 9223372036854775807 → Ev (fun k => parquetrybook_Same_int64.l0 k (pre ++ post) (pre ++ post) (pre.length : Int)) true := by
  induction post with
  | nil =>
    intro pre h
    refine Ev.one fun k => ?_
    simp only [parquetrybook_Same_int64.l0]
    rw [if_neg (by simp)]
  | cons y ys ih =>
    intro pre h
    have hl := len_mid pre y ys
    have hn : pre.length < 9223372036854775807 := by rw [List.length_append] at h; omega
    have := ih (pre ++ [y]) (by rw [← app_snoc]; exact h)
    rw [← app_snoc, show (pre ++ [y]).length = pre.length + 1 by simp] at this
    refine Ev.step (fun k => ?_) this
    simp only [parquetrybook_Same_int64.l0]
    rw [if_pos (by omega), if_pos (by omega), if_pos (by omega), if_pos trivial, wsucc _ hn]
theorem same_int64_ev (l : List Int) (h : l.length < 9223372036854775807) : Ev (fun k => parquetrybook_Same_int64.f k l l) true := by
  unfold parquetrybook_Same_int64.f
  exact Ev.congr (fun k => by rw [if_pos rfl]; rfl) (same_int64_l0 l [] h)

end Go.Proofs.Ytapoeleiicnlbaa.Plain
