/- slices.Grow(nil, n) at Points: an empty row of the call's own. -/
import Derived.Test.YtmocpglnoehknaaQT0
import Derived.WalkKit
import Derived.Lib.Hide
namespace Go.Proofs.Ytmocpglnoehknaa
set_option linter.unusedVariables false
set_option linter.unusedSimpArgs false
open Go.RowKit Go.Proofs.YtmocpglnoehknaaW.PrintWords Go.Proofs.YtmocpglnoehknaaW.PrintLast Go.Proofs.YtmocpglnoehknaaW.PrintMore Go.Proofs.Ytmocpglnoehknaa.QT
set_option maxHeartbeats 2000000 in
set_option maxRecDepth 100000 in
theorem grow_nil (n : Int) (h0 : 0 ≤ n) (hb : n ≤ 1099511627776) (w : World) :
    Calls Try.prog 55 #[.slice none 0 0, .int .i64 n] w fun e w' => ∃ v, e = .returned v ∧ Kd.R k24 24 w' w.heap.size (fun _ => True) v [] ∧ Below w.heap.size w w' := by
  have HB := Aside0.mk (Below.refl w.heap.size w)
  have hn0 : decide (n < 0) = false := decide_eq_false (by omega)
  have hs0 : IntKind.i64.wrap (n - 0) = n := by rw [Int.sub_zero]; exact (i64_w n).trans (by unfold wrap64; omega)
  have hs1 : IntKind.i64.wrap n = n := (i64_w n).trans (by unfold wrap64; omega)
  by_cases h : n > 0
  · have hd : decide (n > 0) = true := decide_eq_true h
    have hle : (0 : Int) ≤ n := h0
    go_enter Try.func55, Try.ntmps55
    go_wp2_with (at_builtin; refine Kd.R_append_zeros k24 (w0 := w) w.heap.size rfl (.tmp 20) (.tmp 21) 29 3 24 (.agg #[.int .i64 0, .int .u64 0, .int .u64 0]) 24 rfl Try.underlying29 Try.underlying3 info24 rfl (by decide) (by omega) (.slice none 0 0) [] z24 n (fun _ => True) rfl rfl (k24_mkM _ _ _ _) (fun _ _ => trivial) (Kd.R_nil _ _ _ _ _) h0 HB.out (Nat.le_refl _) (by simp; omega) ?_; intro v1 w1 hR hB hg hat; obtain ⟨A1, c1, rfl⟩ := Kd.R_slice hR; have HR := Aside0.mk hR; have HB1 := Aside0.mk hB; clear hR hB hg hat)
    go_ret
    exact ⟨_, rfl, by have := Kd.R_take (m := 0) HR.out (Nat.zero_le _); simpa using this, HB1.out⟩
  · have hd : decide (n > 0) = false := decide_eq_false h
    go_enter Try.func55, Try.ntmps55
    go_wp2
    go_ret
    exact ⟨_, rfl, Kd.R_nil _ _ _ _ _, HB.out⟩
end Go.Proofs.Ytmocpglnoehknaa
