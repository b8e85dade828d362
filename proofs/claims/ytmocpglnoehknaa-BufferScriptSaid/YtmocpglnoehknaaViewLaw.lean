/- BufferView: the walk. -/
import Derived.Test.YtmocpglnoehknaaBuf1
import Derived.Test.YtmocpglnoehknaaTwice
import Derived.Deep.Cut
namespace Go.Proofs.Ytmocpglnoehknaa
set_option linter.unusedVariables false
set_option linter.unusedSimpArgs false
open Go.RowKit Go.Proofs.YtmocpglnoehknaaW.PrintWords Go.Proofs.YtmocpglnoehknaaW.PrintLast Go.Proofs.YtmocpglnoehknaaW.PrintMore Go.Proofs.Ytmocpglnoehknaa.QT
namespace Buf
abbrev xb : ByteArray := ⟨#[120]⟩
abbrev yb : ByteArray := ⟨#[121]⟩
theorem same_ev0 (l : List Pt) (hn : l.length ≤ 1099511627776) : ∀ (R P : List Pt), l = P ++ R → Ev (fun k => thermographlaw11_same.l0 k l l (P.length : Int)) true
  | [], P, hl => by
    simp only [List.append_nil] at hl
    have hln : l.length = P.length := by rw [hl]
    refine Ev.step (f := fun _ => some true) (fun k => ?_) (Ev.now _)
    rw [thermographlaw11_same.l0, if_neg (by omega)]
  | x :: R, P, hl => by
    have e : rd_T24 l (P.length : Int) = x := by rw [hl]; exact Vw.rd_mid' P R x _ rfl
    have hln : l.length = P.length + R.length + 1 := by rw [hl]; simp; omega
    have ih := same_ev0 l hn R (P ++ [x]) (by rw [hl]; simp)
    rw [List.length_append, List.length_singleton] at ih
    refine Ev.step (fun k => ?_) ih
    rw [thermographlaw11_same.l0, if_pos (by omega), if_pos (by omega), if_pos (by omega), e, if_neg (by simp), Vw.w1 _ (by omega)]
theorem same_ev (l : List Pt) (hn : l.length ≤ 1099511627776) : Ev (fun k => thermographlaw11_same.f k l l) true := by
  refine Ev.congr (fun k => ?_) (same_ev0 l hn l [] rfl)
  unfold thermographlaw11_same.f
  rw [if_pos rfl]
  rfl
/-- same at two rows of one list. -/
theorem same_any {X : World} {b1 b2 : Nat} {o1 o2 : Nat → Prop} {v1 v2 : Value} {l : List Pt} (h1 : Kd.R k24 24 X b1 o1 v1 l) (h2 : Kd.R k24 24 X b2 o2 v2 l) (hn : l.length ≤ 1099511627776) :
    Calls Try.prog 15 #[v1, v2] X fun e w' => e = .returned (.bool true) ∧ Below X.heap.size X w' := by
  obtain ⟨A1, c1, rfl⟩ := Kd.R_slice h1
  obtain ⟨A2, c2, rfl⟩ := Kd.R_slice h2
  obtain ⟨_, hc1, hC1⟩ := Kd.R_reads' h1
  obtain ⟨_, hc2, hC2⟩ := Kd.R_reads' h2
  obtain ⟨k, hk⟩ := (same_ev l hn).rounds
  exact (thermographlaw11_same.calls k A1 c1 l A2 c2 l true X hC1 hc1 hC2 hc2 hk).mono fun e w' ⟨he, hd⟩ => ⟨he, hd.below⟩
end Buf
end Go.Proofs.Ytmocpglnoehknaa
