/- merge.Merge: the view of all points. -/
import Derived.Test.YtmocpglnoehknaaProg
import Derived.Below
import Derived.Deep.Draws
import Derived.Deep.AppendLies
import Derived.Maps.AppendAt
import Derived.OwnWalk
import Derived.Laws.BytesArg
import Derived.Laws.MakeOwn
import Derived.Laws.OwnMore
import Derived.Deep.OwnRows
import Derived.Tactics
import Derived.Lib.ConvBytes
import Derived.Laws.Slices
import Derived.WalkKit
import Derived.KernelRfl
import Derived.RowKit3
import Derived.Deep.LoopGhost
import Derived.Deep.QuietTactic
import Derived.BigQuiet
import Derived.WideLaws
import Derived.Deep.DeepCutAuto
import Derived.Deep.CutBlock
import Derived.Deep.RegionHeld3
import Derived.Laws.Rows
import Derived.Lib.AppendStr
import Derived.ArgAppend
import Derived.Laws.IdiomCopy
import Derived.OrdersHeld
import Derived.Laws.BitsLemmas
import Derived.RowKit
import Derived.Maps.RangeWalk
import Derived.Test.YtmocpglnoehknaaFnV
import Derived.Test.YtmocpglnoehknaaGrow
import Derived.Test.YtmocpglnoehknaaWordsA
import Derived.Test.YtmocpglnoehknaaWordsB
import Derived.Test.YtmocpglnoehknaaQT0
import Derived.Test.YtmocpglnoehknaaQC1
import Derived.Test.YtmocpglnoehknaaSortNil
import Derived.Test.YtmocpglnoehknaaView
import Derived.Lib.Hide
namespace Go.Proofs.Ytmocpglnoehknaa
set_option linter.unusedVariables false
set_option linter.unusedSimpArgs false
open Go.RowKit Go.Proofs.YtmocpglnoehknaaW.PrintWords Go.Proofs.YtmocpglnoehknaaW.PrintLast Go.Proofs.YtmocpglnoehknaaW.PrintMore Go.Proofs.Ytmocpglnoehknaa.QT
namespace Mg
abbrev Pt := S24
theorem rd_at (P S : List (List Pt)) (x : List Pt) (i : Int) (hi : i = P.length) : rd_L3 (P ++ x :: S) i = x := by
  subst hi; unfold rd_L3; simp
theorem concat_l1 : ∀ (R P : List (List Pt)) (acc : List Pt) (l : List (List Pt)), l = P ++ R → acc = P.flatten → (l.map List.length).sum ≤ 1099511627776 → l.length ≤ 1099511627776 →
    Ev (fun k => QC.api_Point_42.l1 k acc l l.length (P.length : Int)) l.flatten
  | [], P, acc, l, hl, ha, hs, hn => by
    simp only [List.append_nil] at hl
    subst hl; subst ha
    refine Ev.step (f := fun _ => some l.flatten) (fun k => ?_) (Ev.now _)
    rw [QC.api_Point_42.l1, if_neg (by omega)]
  | x :: R, P, acc, l, hl, ha, hs, hn => by
    have e := rd_at P R x (P.length : Int) rfl
    have hln : l.length = P.length + R.length + 1 := by rw [hl]; simp; omega
    have hsum : P.flatten.length + x.length ≤ (l.map List.length).sum := by
      rw [hl]
      simp only [List.length_flatten, List.map_append, List.map_cons, List.sum_append, List.sum_cons]
      omega
    have ih := concat_l1 R (P ++ [x]) (acc ++ x) l (by rw [hl]; simp) (by rw [ha]; simp) hs hn
    rw [List.length_append, List.length_singleton] at ih
    refine Ev.step (fun k => ?_) ih
    rw [QC.api_Point_42.l1, if_pos (by omega), if_pos (by omega), if_pos (by omega), hl, e, if_pos (by rw [ha]; omega)]
    rw [show wrap64 ((P.length : Int) + 1) = ((P.length + 1 : Nat) : Int) from by unfold wrap64; omega]
theorem concat_l0 : ∀ (R P : List (List Pt)) (l : List (List Pt)), l = P ++ R → (l.map List.length).sum ≤ 1099511627776 → l.length ≤ 1099511627776 →
    Ev (fun k => QC.api_Point_42.l0 k l (((P.map List.length).sum : Nat) : Int) l l.length (P.length : Int)) l.flatten
  | [], P, l, hl, hs, hn => by
    simp only [List.append_nil] at hl
    have h1 := concat_l1 l [] [] l rfl rfl hs hn
    refine Ev.step (fun k => ?_) h1
    subst hl
    rw [QC.api_Point_42.l0, if_neg (by omega)]
    rfl
  | x :: R, P, l, hl, hs, hn => by
    have e := rd_at P R x (P.length : Int) rfl
    have hln : l.length = P.length + R.length + 1 := by rw [hl]; simp; omega
    have hsum : (P.map List.length).sum + x.length ≤ (l.map List.length).sum := by
      rw [hl]
      simp only [List.map_append, List.map_cons, List.sum_append, List.sum_cons]
      omega
    have ih := concat_l0 R (P ++ [x]) l (by rw [hl]; simp) hs hn
    rw [List.length_append, List.length_singleton, List.map_append, List.map_singleton, List.sum_append, List.sum_singleton] at ih
    refine Ev.step (fun k => ?_) ih
    rw [QC.api_Point_42.l0, if_pos (by omega), if_pos (by omega), if_pos (by omega), hl, e]
    rw [show wrap64 ((((P.map List.length).sum : Nat) : Int) + (x.length : Int)) = (((P.map List.length).sum + x.length : Nat) : Int) from by unfold wrap64; omega, if_neg (by omega)]
    rw [show wrap64 ((P.length : Int) + 1) = ((P.length + 1 : Nat) : Int) from by unfold wrap64; omega]
theorem concat_ev (l : List (List Pt)) (hs : (l.map List.length).sum ≤ 1099511627776) (hn : l.length ≤ 1099511627776) : Ev (fun k => QC.api_Point_42.f k l) l.flatten := concat_l0 l [] l rfl hs hn
set_option maxHeartbeats 1000000 in
/-- Merge. -/
theorem merge_calls (w : World) (A : Option Addr) (c : Nat) (l : List (List Pt)) (hC : Kd.C (Kd.slice 24 k24) w A l.length l) (hc : l.length ≤ c) (hs : (l.map List.length).sum ≤ 1099511627776) (hn : l.length ≤ 1099511627776) :
    Calls Try.prog 28 #[.slice A l.length c] w fun e w' => ∃ v : Value, e = .returned v ∧ Kd.R k24 24 w' w.heap.size (fun _ => True) v (Vw.view l.flatten) ∧ Below w.heap.size w w' := by
  have hfl : l.flatten.length = (l.map List.length).sum := by rw [List.length_flatten]
  obtain ⟨k, hk⟩ := (concat_ev l hs hn).rounds
  have H1 := Lib.hid (fun w hC => QC.api_Point_42.calls k A c l l.flatten w hC hc hs hk)
  have HC := Lib.hid hC
  obtain ⟨r1, r2, hev, hr⟩ := compact_ev (srtA l.flatten) (by rw [(srtA_perm _).length_eq]; omega)
  obtain ⟨k2, hk2⟩ := hev.rounds
  have HK2 := Lib.hid hk2
  have HR := Lib.hid hr
  have HL := Lib.hid (show l.flatten.length < 4611686018427387904 by omega)
  clear hk hk2 hev hr hs hn hc hfl hC
  go_enter Try.func28, Try.ntmps28
  go_wp2_with fail
  with_reducible refine (H1.out _ HC.out).mono ?_
  rintro e w1 ⟨v1, rfl, hR1, hb1⟩
  have hR1' := Lib.hid hR1
  have hb1' := Lib.hid hb1
  clear hR1 hb1
  go_wp2_with fail
  with_reducible refine (sort_any w.heap.size (fun _ => True) v1 l.flatten _ hR1'.out HL.out).mono ?_
  rintro e w2 ⟨rfl, hR2, hg2⟩
  have hR2' := Lib.hid hR2
  have hb2 := Lib.hid (hb1'.out.grown hg2 hb1'.out.size (fun j hj => Kd.R_base hR1'.out j hj))
  clear hR2 hg2
  go_wp2_with fail
  with_reducible refine (QX.api_Point.calls k2 (fun _ => True) v1 (srtA l.flatten) r1 r2 w _ hb2.out hR2'.out HK2.out).mono ?_
  rintro e w3 ⟨v3, rfl, hR3, hb3⟩
  have hR3' := Lib.hid hR3
  have hb3' := Lib.hid hb3
  clear hR3 hb3
  go_wp2
  go_ret
  refine ⟨_, rfl, ?_, hb3'.out⟩
  have := hR3'.out
  rw [HR.out] at this
  exact Kd.R_mono this (fun _ _ => trivial)
end Mg
end Go.Proofs.Ytmocpglnoehknaa
