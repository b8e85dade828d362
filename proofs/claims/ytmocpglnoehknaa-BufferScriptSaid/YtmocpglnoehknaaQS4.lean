-- Laid by wip/tools/myprint.py of this repo. Not trusted: Lean checks it.
import Derived.Test.YtmocpglnoehknaaSeriesT
import Derived.Test.YtmocpglnoehknaaQS3
namespace Go.Proofs.Ytmocpglnoehknaa.QS
open Go.Proofs.Ytmocpglnoehknaa.QT
open Go.RowKit Go.Proofs.YtmocpglnoehknaaW.PrintWords Go.Proofs.YtmocpglnoehknaaW.PrintLast Go.Proofs.YtmocpglnoehknaaW.PrintMore
attribute [local go_sem] max2_int min2_int max_two min_two max_three min_three max_four min_four   -- for this text's walks alone
set_option linter.unusedVariables false
set_option linter.unusedSimpArgs false

/-! ### thermographref11_Add: function 35 -/
def thermographref11_Add.l0 : Nat → List (S79) → ByteArray → Int → Int → Int → Int → Option ((List (S79)))
  | 0, _, _, _, _, _, _ => none
  | k + 1, x0, x1, x7, x157000, x157001, x157002 => if x7 < (x0.length : Int) then (if 0 ≤ x7 then (if (Op.bytesLess (((rd_T79 x0 x7).f0).toList) x1.toList) = true then (thermographref11_Add.l0 k x0 x1 (wrap64 (x7 + 1)) x157000 x157001 x157002) else ((some (([] : List (S79)) : List (S79))).bind fun y158 => (if x7 ≤ (x0.length : Int) then ((some (x0.take (x7 : Int).toNat : List (S79))).bind fun y161 => (if y158.length + y161.length < 3518437208883 then ((some (y158 ++ y161 : List (S79))).bind fun y166 => (if ((rd_T79 x0 x7).f0).toList = x1.toList then ((thermographref06_Add.f k ((rd_T79 x0 x7).f1) x157000 x157001 x157002).bind fun t171 => (if y166.length < 3518437208883 then ((some (y166 ++ [(⟨x1, t171⟩ : S79)] : List (S79))).bind fun y174 => (if 0 ≤ (wrap64 (x7 + 1)) then (if (wrap64 (x7 + 1)) ≤ (x0.length : Int) then ((some (x0.drop ((wrap64 (x7 + 1)) : Int).toNat : List (S79))).bind fun y177 => (if y174.length + y177.length < 3518437208883 then (some (y174 ++ y177)) else (none))) else (none)) else (none))) else (none))) else (if y166.length < 3518437208883 then ((some (y166 ++ [(⟨x1, (([(⟨x157000, x157001, x157002⟩ : S24)] : List (S24)))⟩ : S79)] : List (S79))).bind fun y188 => ((some (x0.drop (x7 : Int).toNat : List (S79))).bind fun y191 => (if y188.length + y191.length < 3518437208883 then (some (y188 ++ y191)) else (none)))) else (none)))) else (none))) else (none)))) else (none)) else ((some (([] : List (S79)) : List (S79))).bind fun y199 => (if 0 ≤ x7 then (if x7 ≤ (x0.length : Int) then ((some (x0.take (x7 : Int).toNat : List (S79))).bind fun y202 => (if y199.length + y202.length < 3518437208883 then ((some (y199 ++ y202 : List (S79))).bind fun y207 => (if y207.length < 3518437208883 then ((some (y207 ++ [(⟨x1, (([(⟨x157000, x157001, x157002⟩ : S24)] : List (S24)))⟩ : S79)] : List (S79))).bind fun y213 => ((some (x0.drop (x7 : Int).toNat : List (S79))).bind fun y216 => (if y213.length + y216.length < 3518437208883 then (some (y213 ++ y216)) else (none)))) else (none))) else (none))) else (none)) else (none)))
def thermographref11_Add.f (k : Nat) (l0 : List (S79)) (a1 : ByteArray) (a2_0 : Int) (a2_1 : Int) (a2_2 : Int) : Option ((List (S79))) := thermographref11_Add.l0 k l0 a1 0 a2_0 a2_1 a2_2
def thermographref11_Add.T7 : Bool × List (List Nat × List Nat) := (true, [([], []), ([], []), ([], []), ([], []), ([2, 3], [2, 3]), ([4], [4]), ([5], [5]), ([], []), ([6, 7], [6, 7]), ([1, 8], [1, 8]), ([9], [9]), ([0, 10, 8], [0, 10]), ([11, 11, 0, 1, 2, 3, 4, 5, 6, 7, 8, 9, 10, 11], [0, 11])])
def thermographref11_Add.B7 : List Nat := [0, 0, 0, 0, 12, 28, 60, 0, 252, 510, 1022, 2047, 4095]
theorem thermographref11_Add.tab7 : rtab .any (opsOf Try.f35 7) = thermographref11_Add.T7 := by kernel_rfl
theorem thermographref11_Add.bits7 : waitsOk thermographref11_Add.T7.2 thermographref11_Add.B7 = true := by kernel_rfl
set_option maxHeartbeats 8000000 in
set_option maxRecDepth 100000 in
theorem thermographref11_Add.calls (k : Nat) (P0_ : Nat → Prop) (A0 : Option Addr) (c0 : Nat) (l0 : List (S79)) (a1 : ByteArray) (a2_0 : Int) (a2_1 : Int) (a2_2 : Int) (r : List (S79)) (w : World) (hs0 : Kd.V k79 79 w w.heap.size (fun k_ => P0_ k_) (.slice A0 l0.length c0) l0) (h : thermographref11_Add.f k l0 a1 a2_0 a2_1 a2_2 = some r) :
    Calls Try.prog 35 #[.slice A0 l0.length c0, .string a1, .agg #[.int .i64 a2_0, .int .u64 a2_1, .int .u64 a2_2]] w fun e w' => ∃ v0_ : Value, e = .returned (v0_) ∧ Kd.N k79 79 w' w.heap.size (fun k_ => (P0_ k_ ∨ w.heap.size ≤ k_)) v0_ r ∧ Below w.heap.size w w' := by
  have hu24 := Try.underlying24
  have hu79 := Try.underlying79
  have HO0 := Aside0.mk (show Kd.V k79 79 w w.heap.size (fun k_ => (P0_ k_ ∨ w.heap.size ≤ k_)) (.slice A0 l0.length c0) l0 from Kd.V_mono hs0 (fun k_ hk => .inl hk))
  have HB := Aside0.mk (Below.refl w.heap.size w)
  have H : (thermographref11_Add.l0 k l0 a1 0 a2_0 a2_1 a2_2) = some r := h
  clear h
  have H' := Aside0.mk H
  clear H
  go_enter Try.func35, Try.ntmps35
  go_wp2_with (first | ((with_reducible refine gate_dst (N := 5) rfl ?_); refine box_event ?hg (N := 5) ?hd (cs := #[.int .i64 a2_0, .int .u64 a2_1, .int .u64 a2_2]) (t := 24) ?hr ?_; (case hd => rfl); (case hg => rfl); (case hr => first | (go_simp; done) | (go_simp; rfl)); intro gb156 hg w4 hbox hb; have n0_ := Aside0.mk (Kd.V_below (Kd.V_elderB (by (with_reducible repeat (first | apply Kd.V_alloc | apply Kd.V_drewN | apply Kd.V_drew)); exact HO0.out) gb156 (Nat.le_of_eq hg.symm)) hb); have n1_ := Aside0.mk (below_step (by repeat (first | (with_reducible first | exact HB.out | apply below_alloc | apply pw_below_drewN | apply below_drew1) | exact HB.out)) hb); have n2_ := Aside0.mk (hbox); have n3_ := Aside0.mk ((by rw [hg]; exact (below_size (by repeat (first | (with_reducible first | exact HB.out | apply below_alloc | apply pw_below_drewN | apply below_drew1) | exact HB.out))) : w.heap.size ≤ gb156)); have n4_ := Aside0.mk ((by rw [hg]; exact (below_size (by repeat (first | (with_reducible first | exact HB.out | apply below_alloc | apply pw_below_drewN | apply below_drew1) | exact HB.out))) : w.heap.size ≤ gb156)); clear HO0; clear HB; have HO0 := n0_; have HB := n1_; have BK156 := n2_; have GW156 := n3_; have GE156 := n4_; clear n0_ n1_ n2_ n3_ n4_; clear hb hbox hg))
  try go_frame
  go_loopg [7] k (fun kq v7 w' => ∃ (x7_1 : Int), v7 = .int .i64 x7_1 ∧ Aside0 (thermographref11_Add.l0 kq l0 a1 x7_1 a2_0 a2_1 a2_2 = some r) ∧ Aside0 (kq ≤ k) ∧ Aside0 (Kd.V k79 79 w' w.heap.size (fun k_ => (P0_ k_ ∨ w.heap.size ≤ k_) ∧ k_ ≠ gb156) (.slice A0 l0.length c0) l0) ∧ Aside0 (w'.heap[gb156]? = some (.cells #[.int .i64 a2_0, .int .u64 a2_1, .int .u64 a2_2] 24 (0, 0))) ∧ Aside0 (Below w.heap.size w w'))
  case atStart => exact ⟨(0), (by first | rfl | (simp; done) | (simp [*]; done)), H', ⟨Nat.le_refl _⟩, ⟨by (with_reducible repeat (first | apply Kd.V_alloc | apply Kd.V_drewN | apply Kd.V_drew)); exact HO0.out⟩, ⟨by (with_reducible repeat (first | refine blk_drewN ?_ _ | refine blk_drew ?_ | refine blk_alloc ?_ _)); exact BK156.out⟩, ⟨by repeat (first | (with_reducible first | exact HB.out | apply below_alloc | apply pw_below_drewN | apply below_drew1 | refine below_set ?_ GE156.out) | exact HB.out)⟩⟩
  case round =>
    clear H'
    try clear p2
    try clear c3
    obtain ⟨x7_1, rfl, HA, HK1, HO_0, BK156, HB⟩ := hrel
    cases gk with
    | zero => exact absurd HA.out (by simp [thermographref11_Add.l0])
    | succ k1 =>
      have H := HA.out
      clear HA
      simp only [thermographref11_Add.l0] at H
      by_cases c5 : x7_1 < (l0.length : Int)
      · rw [if_pos c5] at H
        have c5b0 : decide (x7_1 < (l0.length : Int)) = true := decide_eq_true c5
        clear c5
        by_cases c6 : 0 ≤ x7_1
        · rw [if_pos c6] at H
          have c6b0 : decide (0 ≤ x7_1) = true := decide_eq_true c6
          clear c6
          by_cases c7 : (Op.bytesLess (((rd_T79 l0 x7_1).f0).toList) a1.toList) = true
          · rw [if_pos c7] at H
            have c7b0 : (Op.bytesLess (((rd_T79 l0 x7_1).f0).toList) a1.toList) = true := c7
            have c7b1 : (Op.bytesLess a1.toList (((rd_T79 l0 x7_1).f0).toList)) = false := str_asymm c7b0
            have c7b2 : (a1.toList == (((rd_T79 l0 x7_1).f0).toList)) = false := str_ne c7b0
            clear c7
            have H' := Aside0.mk H
            clear H
            have p157 : 0 ≤ (x7_1 : Int) := of_decide_eq_true (by first | (with_reducible assumption) | assumption)
            have q157 : x7_1 < (l0.length : Int) := of_decide_eq_true (by first | (with_reducible assumption) | assumption)
            obtain ⟨ad157, A157_1, c157_1, e157, hx157_0, hx157_1, hl157_1, hi157_1⟩ := at_T79 (Kd.V_reads' HO_0.out).2.2 x7_1 p157 q157
            cases e157
            obtain ⟨ce157, hce157, hMe157, hcc157⟩ := Kd.V_get HO_0.out z79 x7_1 p157 (by first | exact q157 | exact of_decide_eq_true (by first | (with_reducible assumption) | assumption) | (have e_ := (Kd.V_reads' HO_0.out).1; omega))
            obtain ⟨ua157_1, uc157_1, rfl, ul157_1, ge157_1⟩ := k79_openF hMe157
            have hv157_1 := hcc157 1 _ rfl
            rw [add_field _ _ 1 (by omega)] at hv157_1
            replace hv157_1 := Option.some.inj (hv157_1.symm.trans hx157_1)
            injection hv157_1 with hva_ hvn_ hvc_
            rw [hva_] at ge157_1
            rw [hvc_] at ul157_1
            have HL157_1 := Aside0.mk (show Kd.V k24 24 _ w.heap.size _ _ ((rd_T79 l0 x7_1).f1) from Kd.V_mk ul157_1 ge157_1)
            clear hva_ hvn_ hvc_ ge157_1 ul157_1
            clear hcc157 hce157
            have HR157_1 := Aside0.mk hi157_1
            have HC157_1 := Aside0.mk hl157_1
            clear hi157_1 hl157_1
            replace p157 := eq_true p157
            replace q157 := eq_true q157
            go_wp2
            go_roundg k1
            case measure => have := HK1.out; omega
            case rel => exact ⟨(wrap64 (x7_1 + 1)), (by first | rfl | (simp; done) | (simp [*]; done)), H', ⟨by have := HK1.out; omega⟩, ⟨by (with_reducible repeat (first | apply Kd.V_alloc | apply Kd.V_drewN | apply Kd.V_drew)); exact HO_0.out⟩, ⟨by (with_reducible repeat (first | refine blk_drewN ?_ _ | refine blk_drew ?_ | refine blk_alloc ?_ _)); exact BK156.out⟩, ⟨by repeat (first | (with_reducible first | exact HB.out | apply below_alloc | apply pw_below_drewN | apply below_drew1 | refine below_set ?_ GE156.out) | exact HB.out)⟩⟩
          · rw [if_neg c7] at H
            have c7b0 : (Op.bytesLess (((rd_T79 l0 x7_1).f0).toList) a1.toList) = false := by simpa using c7
            have c7b1 : (Op.bytesLess a1.toList (((rd_T79 l0 x7_1).f0).toList) || a1.toList == (((rd_T79 l0 x7_1).f0).toList)) = true := str_ge c7b0
            clear c7
            obtain ⟨y158, hy158⟩ : ∃ y_ : List (S79), y_ = (([] : List (S79))) := ⟨_, rfl⟩
            replace H : (if x7_1 ≤ (l0.length : Int) then ((some (l0.take (x7_1 : Int).toNat : List (S79))).bind fun y161 => (if y158.length + y161.length < 3518437208883 then ((some (y158 ++ y161 : List (S79))).bind fun y166 => (if ((rd_T79 l0 x7_1).f0).toList = a1.toList then ((thermographref06_Add.f k1 ((rd_T79 l0 x7_1).f1) a2_0 a2_1 a2_2).bind fun t171 => (if y166.length < 3518437208883 then ((some (y166 ++ [(⟨a1, t171⟩ : S79)] : List (S79))).bind fun y174 => (if 0 ≤ (wrap64 (x7_1 + 1)) then (if (wrap64 (x7_1 + 1)) ≤ (l0.length : Int) then ((some (l0.drop ((wrap64 (x7_1 + 1)) : Int).toNat : List (S79))).bind fun y177 => (if y174.length + y177.length < 3518437208883 then (some (y174 ++ y177)) else (none))) else (none)) else (none))) else (none))) else (if y166.length < 3518437208883 then ((some (y166 ++ [(⟨a1, (([(⟨a2_0, a2_1, a2_2⟩ : S24)] : List (S24)))⟩ : S79)] : List (S79))).bind fun y188 => ((some (l0.drop (x7_1 : Int).toNat : List (S79))).bind fun y191 => (if y188.length + y191.length < 3518437208883 then (some (y188 ++ y191)) else (none)))) else (none)))) else (none))) else (none)) = some r := by first | (rw [hy158]; with_reducible exact H) | (have H2_ := (Option.bind_some _ _).symm.trans H; rw [hy158]; with_reducible exact H2_) | (have H2_ := (Option.bind_some _ _).symm.trans H; with_reducible exact H2_) | with_reducible exact H | (rw [hy158]; exact H) | exact H
            have Ny158 := Aside0.mk hy158
            clear hy158
            have c8b0 := eq_true (of_decide_eq_true (by first | (with_reducible assumption) | assumption) : 0 ≤ x7_1)
            by_cases c9 : x7_1 ≤ (l0.length : Int)
            · rw [if_pos c9] at H
              have c9b0 := eq_true c9
              have c9b1 : decide (x7_1 ≤ (l0.length : Int)) = true := decide_eq_true c9
              clear c9
              obtain ⟨y161, hy161⟩ : ∃ y_ : List (S79), y_ = (l0.take (x7_1 : Int).toNat) := ⟨_, rfl⟩
              replace H : (if y158.length + y161.length < 3518437208883 then ((some (y158 ++ y161 : List (S79))).bind fun y166 => (if ((rd_T79 l0 x7_1).f0).toList = a1.toList then ((thermographref06_Add.f k1 ((rd_T79 l0 x7_1).f1) a2_0 a2_1 a2_2).bind fun t171 => (if y166.length < 3518437208883 then ((some (y166 ++ [(⟨a1, t171⟩ : S79)] : List (S79))).bind fun y174 => (if 0 ≤ (wrap64 (x7_1 + 1)) then (if (wrap64 (x7_1 + 1)) ≤ (l0.length : Int) then ((some (l0.drop ((wrap64 (x7_1 + 1)) : Int).toNat : List (S79))).bind fun y177 => (if y174.length + y177.length < 3518437208883 then (some (y174 ++ y177)) else (none))) else (none)) else (none))) else (none))) else (if y166.length < 3518437208883 then ((some (y166 ++ [(⟨a1, (([(⟨a2_0, a2_1, a2_2⟩ : S24)] : List (S24)))⟩ : S79)] : List (S79))).bind fun y188 => ((some (l0.drop (x7_1 : Int).toNat : List (S79))).bind fun y191 => (if y188.length + y191.length < 3518437208883 then (some (y188 ++ y191)) else (none)))) else (none)))) else (none)) = some r := by first | (rw [hy161]; with_reducible exact H) | (have H2_ := (Option.bind_some _ _).symm.trans H; rw [hy161]; with_reducible exact H2_) | (have H2_ := (Option.bind_some _ _).symm.trans H; with_reducible exact H2_) | with_reducible exact H | (rw [hy161]; exact H) | exact H
              have Ny161 := Aside0.mk hy161
              clear hy161
              by_cases c10 : y158.length + y161.length < 3518437208883
              · rw [if_pos c10] at H
                have LMc10 := Aside0.mk c10
                clear c10
                obtain ⟨y166, hy166⟩ : ∃ y_ : List (S79), y_ = (y158 ++ y161) := ⟨_, rfl⟩
                replace H : (if ((rd_T79 l0 x7_1).f0).toList = a1.toList then ((thermographref06_Add.f k1 ((rd_T79 l0 x7_1).f1) a2_0 a2_1 a2_2).bind fun t171 => (if y166.length < 3518437208883 then ((some (y166 ++ [(⟨a1, t171⟩ : S79)] : List (S79))).bind fun y174 => (if 0 ≤ (wrap64 (x7_1 + 1)) then (if (wrap64 (x7_1 + 1)) ≤ (l0.length : Int) then ((some (l0.drop ((wrap64 (x7_1 + 1)) : Int).toNat : List (S79))).bind fun y177 => (if y174.length + y177.length < 3518437208883 then (some (y174 ++ y177)) else (none))) else (none)) else (none))) else (none))) else (if y166.length < 3518437208883 then ((some (y166 ++ [(⟨a1, (([(⟨a2_0, a2_1, a2_2⟩ : S24)] : List (S24)))⟩ : S79)] : List (S79))).bind fun y188 => ((some (l0.drop (x7_1 : Int).toNat : List (S79))).bind fun y191 => (if y188.length + y191.length < 3518437208883 then (some (y188 ++ y191)) else (none)))) else (none))) = some r := by first | (rw [hy166]; with_reducible exact H) | (have H2_ := (Option.bind_some _ _).symm.trans H; rw [hy166]; with_reducible exact H2_) | (have H2_ := (Option.bind_some _ _).symm.trans H; with_reducible exact H2_) | with_reducible exact H | (rw [hy166]; exact H) | exact H
                have Ny166 := Aside0.mk hy166
                clear hy166
                by_cases c11 : ((rd_T79 l0 x7_1).f0).toList = a1.toList
                · rw [if_pos c11] at H
                  have c11b0 : (((rd_T79 l0 x7_1).f0).toList == a1.toList) = true := beq_iff_eq.mpr c11
                  have c11b1 : (((rd_T79 l0 x7_1).f0).toList != a1.toList) = false := bne_eq_false_iff_eq.mpr c11
                  clear c11
                  replace H := Option.bind_eq_some_iff.mp H
                  obtain ⟨t171, A120, H⟩ := H
                  replace H : (if y166.length < 3518437208883 then ((some (y166 ++ [(⟨a1, t171⟩ : S79)] : List (S79))).bind fun y174 => (if 0 ≤ (wrap64 (x7_1 + 1)) then (if (wrap64 (x7_1 + 1)) ≤ (l0.length : Int) then ((some (l0.drop ((wrap64 (x7_1 + 1)) : Int).toNat : List (S79))).bind fun y177 => (if y174.length + y177.length < 3518437208883 then (some (y174 ++ y177)) else (none))) else (none)) else (none))) else (none)) = some r := H
                  have A12 := Aside0.mk A120
                  clear A120
                  by_cases c13 : y166.length < 3518437208883
                  · rw [if_pos c13] at H
                    have LMc13 := Aside0.mk c13
                    clear c13
                    obtain ⟨y174, hy174⟩ : ∃ y_ : List (S79), y_ = (y166 ++ [(⟨a1, t171⟩ : S79)]) := ⟨_, rfl⟩
                    replace H : (if 0 ≤ (wrap64 (x7_1 + 1)) then (if (wrap64 (x7_1 + 1)) ≤ (l0.length : Int) then ((some (l0.drop ((wrap64 (x7_1 + 1)) : Int).toNat : List (S79))).bind fun y177 => (if y174.length + y177.length < 3518437208883 then (some (y174 ++ y177)) else (none))) else (none)) else (none)) = some r := by first | (rw [hy174]; with_reducible exact H) | (have H2_ := (Option.bind_some _ _).symm.trans H; rw [hy174]; with_reducible exact H2_) | (have H2_ := (Option.bind_some _ _).symm.trans H; with_reducible exact H2_) | with_reducible exact H | (rw [hy174]; exact H) | exact H
                    have Ny174 := Aside0.mk hy174
                    clear hy174
                    obtain ⟨ji14, hji14⟩ : ∃ j_ : Int, (wrap64 (x7_1 + 1)) = j_ := ⟨_, rfl⟩
                    replace H : (if 0 ≤ (ji14) then (if (ji14) ≤ (l0.length : Int) then ((some (l0.drop ((ji14) : Int).toNat : List (S79))).bind fun y177 => (if y174.length + y177.length < 3518437208883 then (some (y174 ++ y177)) else (none))) else (none)) else (none)) = some r := by first | (rw [hji14] at H; exact H) | (simp only [hji14] at H ⊢; exact H)
                    (try rw [hji14] at A12)
                    have hji14w : (IntKind.i64.wrap (x7_1 + 1)) = ji14 := (i64_w _).trans hji14
                    by_cases c15 : 0 ≤ (ji14)
                    · rw [if_pos c15] at H
                      have c15b0 := eq_true c15
                      have c15b1 : decide (0 ≤ (ji14)) = true := decide_eq_true c15
                      clear c15
                      by_cases c16 : (ji14) ≤ (l0.length : Int)
                      · rw [if_pos c16] at H
                        have c16b0 := eq_true c16
                        have c16b1 : decide ((ji14) ≤ (l0.length : Int)) = true := decide_eq_true c16
                        clear c16
                        obtain ⟨y177, hy177⟩ : ∃ y_ : List (S79), y_ = (l0.drop ((ji14) : Int).toNat) := ⟨_, rfl⟩
                        replace H : (if y174.length + y177.length < 3518437208883 then (some (y174 ++ y177)) else (none)) = some r := by first | (rw [hy177]; with_reducible exact H) | (have H2_ := (Option.bind_some _ _).symm.trans H; rw [hy177]; with_reducible exact H2_) | (have H2_ := (Option.bind_some _ _).symm.trans H; with_reducible exact H2_) | with_reducible exact H | (rw [hy177]; exact H) | exact H
                        have Ny177 := Aside0.mk hy177
                        clear hy177
                        by_cases c17 : y174.length + y177.length < 3518437208883
                        · rw [if_pos c17] at H
                          have LMc17 := Aside0.mk c17
                          clear c17
                          obtain ⟨y182, hy182⟩ : ∃ y_ : List (S79), y_ = (y174 ++ y177) := ⟨_, rfl⟩
                          replace H : (some y182) = some r := by first | (rw [hy182]; with_reducible exact H) | (have H2_ := (Option.bind_some _ _).symm.trans H; rw [hy182]; with_reducible exact H2_) | (have H2_ := (Option.bind_some _ _).symm.trans H; with_reducible exact H2_) | with_reducible exact H | (rw [hy182]; exact H) | exact H
                          have Ny182 := Aside0.mk hy182
                          clear hy182
                          obtain rfl := Option.some.inj H
                          have p157 : 0 ≤ (x7_1 : Int) := of_decide_eq_true (by first | (with_reducible assumption) | assumption)
                          have q157 : x7_1 < (l0.length : Int) := of_decide_eq_true (by first | (with_reducible assumption) | assumption)
                          obtain ⟨ad157, A157_1, c157_1, e157, hx157_0, hx157_1, hl157_1, hi157_1⟩ := at_T79 (Kd.V_reads' HO_0.out).2.2 x7_1 p157 q157
                          cases e157
                          obtain ⟨ce157, hce157, hMe157, hcc157⟩ := Kd.V_get HO_0.out z79 x7_1 p157 (by first | exact q157 | exact of_decide_eq_true (by first | (with_reducible assumption) | assumption) | (have e_ := (Kd.V_reads' HO_0.out).1; omega))
                          obtain ⟨ua157_1, uc157_1, rfl, ul157_1, ge157_1⟩ := k79_openF hMe157
                          have hv157_1 := hcc157 1 _ rfl
                          rw [add_field _ _ 1 (by omega)] at hv157_1
                          replace hv157_1 := Option.some.inj (hv157_1.symm.trans hx157_1)
                          injection hv157_1 with hva_ hvn_ hvc_
                          rw [hva_] at ge157_1
                          rw [hvc_] at ul157_1
                          have HL157_1 := Aside0.mk (show Kd.V k24 24 _ w.heap.size _ _ ((rd_T79 l0 x7_1).f1) from Kd.V_mk ul157_1 ge157_1)
                          clear hva_ hvn_ hvc_ ge157_1 ul157_1
                          clear hcc157 hce157
                          have HR157_1 := Aside0.mk hi157_1
                          have HC157_1 := Aside0.mk hl157_1
                          clear hi157_1 hl157_1
                          replace p157 := eq_true p157
                          replace q157 := eq_true q157
                          try go_wp2_with (first | ((with_reducible refine gate_dst (N := 25) rfl ?_); refine Kd.N_lit k79 _ 79 ?hg (N' := 25) ?hd (xs := ([] : List (S79))) (inner := []) (ok := (fun k_ => (P0_ k_ ∨ w.heap.size ≤ k_) ∧ k_ ≠ gb156)) (okp := (fun k_ => (P0_ k_ ∨ w.heap.size ≤ k_) ∧ k_ ≠ gb156)) ?hr ?hp (fun _ hk => hk) ((show ∀ k_, wr.heap.size ≤ k_ → (fun k_ => (P0_ k_ ∨ w.heap.size ≤ k_) ∧ k_ ≠ gb156) k_ from fun k_ hk => ⟨(.inr (Nat.le_trans (below_size (by repeat (first | (with_reducible first | exact HB.out | apply below_alloc | apply pw_below_drewN | apply below_drew1 | refine below_set ?_ GE156.out) | exact HB.out))) hk)), Kd.freshB (g := gb156) (o := .cells #[.int .i64 a2_0, .int .u64 a2_1, .int .u64 a2_2] 24 (0, 0)) (by (with_reducible repeat (first | refine blk_drewN ?_ _ | refine blk_drew ?_ | refine blk_alloc ?_ _)); exact BK156.out) k_ hk⟩) _ (Nat.le_refl _)) (Below.refl _ _) (Nat.le_refl _) (by simp) ?_; (case hd => rfl); (case hg => rfl); (case hr => first | (go_simp; done) | (go_simp; rfl)); (case hp => exact (Reps.none _ _)); intro v159 w18 ho19 hb hg_ hnew_; clear hg_ hnew_; (first | rw [← Ny158.out] at ho19 | (simp only [Int.reduceToNat] at ho19; rw [← Ny158.out] at ho19)); have n0_ := Aside0.mk (Kd.V_elder' (by (with_reducible repeat (first | apply Kd.V_alloc | apply Kd.V_drewN | apply Kd.V_drew)); exact HO_0.out) (Kd.N_base ho19) hb); have n1_ := Aside0.mk (Kd.V_elder' (by (with_reducible repeat (first | apply Kd.V_alloc | apply Kd.V_drewN | apply Kd.V_drew)); exact HL157_1.out) (Kd.N_base ho19) hb); have n2_ := Aside0.mk (Kd.N_lower ho19 (below_size (by repeat (first | (with_reducible first | exact HB.out | apply below_alloc | apply pw_below_drewN | apply below_drew1 | refine below_set ?_ GE156.out) | exact HB.out)))); have n3_ := Aside0.mk (blk_below (g := gb156) (o := .cells #[.int .i64 a2_0, .int .u64 a2_1, .int .u64 a2_2] 24 (0, 0)) (by (with_reducible repeat (first | refine blk_drewN ?_ _ | refine blk_drew ?_ | refine blk_alloc ?_ _)); exact BK156.out) hb); have n4_ := Aside0.mk (Kd.C_below (by repeat (first | (with_reducible exact HR157_1.out) | (with_reducible refine Kd.C_alloc ?_ _) | (with_reducible refine Kd.C_drewN ?_ _) | (with_reducible refine Kd.C_drew ?_) | exact HR157_1.out)) hb); have n5_ := Aside0.mk (below_step (by repeat (first | (with_reducible first | exact HB.out | apply below_alloc | apply pw_below_drewN | apply below_drew1 | refine below_set ?_ GE156.out) | exact HB.out)) hb); clear HO_0; clear HL157_1; clear BK156; clear HR157_1; clear HB; have HO_0 := n0_; have HL157_1 := n1_; have HO160 := n2_; have BK156 := n3_; have HR157_1 := n4_; have HB := n5_; clear n0_ n1_ n2_ n3_ n4_ n5_; clear hb ho19; have q20 : (x7_1 : Int) ≤ ((l0.length : Int) : Int) := of_decide_eq_true (by first | (with_reducible assumption) | assumption); obtain ⟨i020, hi020, _, hsz20, _⟩ := info_parts info79; have hroom20 : l0.length ≤ c0 := (Kd.V_reads' HO_0.out).2.1; have hC20 : Kd.F k79 _ _ (some ad157) l0.length l0 := (Kd.V_at (base := w.heap.size) HO_0.out).2.2; have hcut20 := cut_to (P := Try.prog) 48 79 .i64 Try.underlying48 hi020 (some ad157) l0.length c0 x7_1 (of_decide_eq_true (by first | (with_reducible assumption) | assumption)) q20 hroom20; have hr20 := Kd.F_take (m := (x7_1 : Int).toNat) hC20 (by omega); have hy20 : y161.length = (x7_1 : Int).toNat := (by rw [Ny161.out, List.length_take]; omega); rw [← Ny161.out] at hr20; rw [← hy20] at hcut20; have HO165 := Aside0.mk (show Kd.V k79 79 _ w.heap.size _ (.slice (some ad157) y161.length c0) y161 from Kd.V_mk (by omega) hr20); have HC165 := Aside0.mk (show y161.length ≤ c0 from by omega); clear hr20 hC20 hroom20 hi020 hsz20; have KY20 := Aside0.mk hy20; clear hy20; replace q20 := eq_true q20) | ((with_reducible refine gate_builtin (b := .append) (xs := #[.tmp 26, .tmp 29]) rfl ?_); at_builtin; refine Kd.N_append_rows k79 (w0 := w) w.heap.size rfl (.tmp 26) (.tmp 29) 48 79 (.agg #[(.string ⟨#[]⟩), (.slice none 0 0)]) 40 rfl Try.underlying48 info79 rfl (by decide) (by omega) v159 y158 y161 _ _ _ (fun k_ => (P0_ k_ ∨ w.heap.size ≤ k_) ∧ k_ ≠ gb156) (fun k_ => ((fun k_ => (P0_ k_ ∨ w.heap.size ≤ k_) ∧ k_ ≠ gb156)) k_ ∧ some k_ ≠ (v159 : Value).ownBlock) rfl rfl ?aO ?aR (fun _ hk => hk) ?aF ?aB ?aS ?aL ?_; (case aR => exact (by skip; exact Kd.V_F (Kd.V_mono (ok' := (fun k_ => ((fun k_ => (P0_ k_ ∨ w.heap.size ≤ k_) ∧ k_ ≠ gb156)) k_ ∧ some k_ ≠ (v159 : Value).ownBlock)) (HO165.out) (fun k_ hk => ⟨⟨hk.1.1, hk.1.2⟩, hk.2⟩)))); (case aB => exact (by repeat (first | (with_reducible first | exact HB.out | apply below_alloc | apply pw_below_drewN | apply below_drew1 | refine below_set ?_ GE156.out) | exact HB.out))); (case aF => exact (fun k_ hk => ⟨(.inr (Nat.le_trans (below_size (by repeat (first | (with_reducible first | exact HB.out | apply below_alloc | apply pw_below_drewN | apply below_drew1 | refine below_set ?_ GE156.out) | exact HB.out))) hk)), Kd.freshB (g := gb156) (o := .cells #[.int .i64 a2_0, .int .u64 a2_1, .int .u64 a2_2] 24 (0, 0)) (by (with_reducible repeat (first | refine blk_drewN ?_ _ | refine blk_drew ?_ | refine blk_alloc ?_ _)); exact BK156.out) k_ hk⟩)); (case aO => exact (by (with_reducible repeat (first | apply Kd.N_alloc | apply Kd.N_drewN | apply Kd.N_drew)); exact HO160.out)); (case aS => exact (below_size (by repeat (first | (with_reducible first | exact HB.out | apply below_alloc | apply pw_below_drewN | apply below_drew1 | refine below_set ?_ GE156.out) | exact HB.out)))); (case aL => have := LMc10.out; omega); intro v167 w21 ho hb hg hat; rw [← Ny166.out] at ho; have n0_ := Aside0.mk (Kd.V_afterv (ok := (fun k_ => (P0_ k_ ∨ w.heap.size ≤ k_) ∧ k_ ≠ gb156)) (by (with_reducible repeat (first | apply Kd.V_alloc | apply Kd.V_drewN | apply Kd.V_drew)); exact HO_0.out) hg hat); have n1_ := Aside0.mk (blk_grown (g := gb156) (o := .cells #[.int .i64 a2_0, .int .u64 a2_1, .int .u64 a2_2] 24 (0, 0)) (by (with_reducible repeat (first | refine blk_drewN ?_ _ | refine blk_drew ?_ | refine blk_alloc ?_ _)); exact BK156.out) hg (Kd.N_ne HO160.out BK156.out (by decide))); have n2_ := Aside0.mk (Kd.V_afterv (ok := (fun k_ => (P0_ k_ ∨ w.heap.size ≤ k_) ∧ k_ ≠ gb156)) (by (with_reducible repeat (first | apply Kd.V_alloc | apply Kd.V_drewN | apply Kd.V_drew)); exact HL157_1.out) hg hat); have n3_ := Aside0.mk (Kd.V_afterv (ok := (fun k_ => (P0_ k_ ∨ w.heap.size ≤ k_) ∧ k_ ≠ gb156)) (by (with_reducible repeat (first | apply Kd.V_alloc | apply Kd.V_drewN | apply Kd.V_drew)); exact HO165.out) hg hat); have n4_ := Aside0.mk (hb); have n5_ := Aside0.mk (ho); clear HO_0; clear BK156; clear HL157_1; clear HO165; clear HB; clear HO160; have HO_0 := n0_; have BK156 := n1_; have HL157_1 := n2_; have HO165 := n3_; have HB := n4_; have HO168 := n5_; clear n0_ n1_ n2_ n3_ n4_ n5_; clear ho hb hg hat; have p169 : 0 ≤ (x7_1 : Int) := of_decide_eq_true (by first | (with_reducible assumption) | assumption); have q169 : x7_1 < (l0.length : Int) := of_decide_eq_true (by first | (with_reducible assumption) | assumption); obtain ⟨ad169, A169_1, c169_1, e169, hx169_0, hx169_1, hl169_1, hi169_1⟩ := at_T79 (Kd.V_reads' HO_0.out).2.2 x7_1 p169 q169; obtain rfl : ad157 = ad169 := (by injection e169); obtain ⟨ce169, hce169, hMe169, hcc169⟩ := Kd.V_get HO_0.out z79 x7_1 p169 (by first | exact q169 | exact of_decide_eq_true (by first | (with_reducible assumption) | assumption) | (have e_ := (Kd.V_reads' HO_0.out).1; omega)); obtain ⟨ua169_1, uc169_1, rfl, ul169_1, ge169_1⟩ := k79_openF hMe169; have hv169_1 := hcc169 1 _ rfl; rw [add_field _ _ 1 (by omega)] at hv169_1; replace hv169_1 := Option.some.inj (hv169_1.symm.trans hx169_1); injection hv169_1 with hva_ hvn_ hvc_; rw [hva_] at ge169_1; rw [hvc_] at ul169_1; have HL169_1 := Aside0.mk (show Kd.V k24 24 _ w.heap.size _ _ ((rd_T79 l0 x7_1).f1) from Kd.V_mk ul169_1 ge169_1); clear hva_ hvn_ hvc_ ge169_1 ul169_1; clear hcc169 hce169; have HR169_1 := Aside0.mk hi169_1; have HC169_1 := Aside0.mk hl169_1; clear hi169_1 hl169_1; replace p169 := eq_true p169; replace q169 := eq_true q169))
                          have n0_ := Aside0.mk (Kd.V_drew HO_0.out)
                          have n1_ := Aside0.mk (Kd.V_drew HL157_1.out)
                          have n2_ := Aside0.mk (Kd.V_drew HO165.out)
                          have n3_ := Aside0.mk (Kd.N_drew HO168.out)
                          have n4_ := Aside0.mk (Kd.V_drew HL169_1.out)
                          have n5_ := Aside0.mk (blk_drew BK156.out)
                          have n6_ := Aside0.mk (Kd.C_drew HR169_1.out)
                          have n7_ := Aside0.mk (below_drew1 HB.out)
                          clear HO_0
                          clear HL157_1
                          clear HO165
                          clear HO168
                          clear HL169_1
                          clear BK156
                          clear HR169_1
                          clear HB
                          have HO_0 := n0_
                          have HL157_1 := n1_
                          have HO165 := n2_
                          have HO168 := n3_
                          have HL169_1 := n4_
                          have BK156 := n5_
                          have HR169_1 := n6_
                          have HB := n7_
                          clear n0_ n1_ n2_ n3_ n4_ n5_ n6_ n7_
                          have p170 : 0 ≤ (x7_1 : Int) := of_decide_eq_true (by first | (with_reducible assumption) | assumption)
                          have q170 : x7_1 < (l0.length : Int) := of_decide_eq_true (by first | (with_reducible assumption) | assumption)
                          obtain ⟨ad170, A170_1, c170_1, e170, hx170_0, hx170_1, hl170_1, hi170_1⟩ := at_T79 (Kd.V_reads' HO_0.out).2.2 x7_1 p170 q170
                          obtain rfl : ad157 = ad170 := (by injection e170)
                          obtain ⟨ce170, hce170, hMe170, hcc170⟩ := Kd.V_get HO_0.out z79 x7_1 p170 (by first | exact q170 | exact of_decide_eq_true (by first | (with_reducible assumption) | assumption) | (have e_ := (Kd.V_reads' HO_0.out).1; omega))
                          obtain ⟨ua170_1, uc170_1, rfl, ul170_1, ge170_1⟩ := k79_openF hMe170
                          have hv170_1 := hcc170 1 _ rfl
                          rw [add_field _ _ 1 (by omega)] at hv170_1
                          replace hv170_1 := Option.some.inj (hv170_1.symm.trans hx170_1)
                          injection hv170_1 with hva_ hvn_ hvc_
                          rw [hva_] at ge170_1
                          rw [hvc_] at ul170_1
                          have HL170_1 := Aside0.mk (show Kd.V k24 24 _ w.heap.size _ _ ((rd_T79 l0 x7_1).f1) from Kd.V_mk ul170_1 ge170_1)
                          clear hva_ hvn_ hvc_ ge170_1 ul170_1
                          clear hcc170 hce170
                          have HR170_1 := Aside0.mk hi170_1
                          have HC170_1 := Aside0.mk hl170_1
                          clear hi170_1 hl170_1
                          replace p170 := eq_true p170
                          replace q170 := eq_true q170
                          refine start_ (n := 13) (S := fun w' => w'.cell? ⟨gb156, 0, none⟩ = some (.int .i64 a2_0) ∧ w'.cell? ⟨gb156, 1, none⟩ = some (.int .u64 a2_1) ∧ w'.cell? ⟨gb156, 2, none⟩ = some (.int .u64 a2_2) ∧ w'.cell? (ad157.add ((x7_1).toNat * 2)) = some (.string ((rd_T79 l0 x7_1).f0)) ∧ w'.cell? ⟨(ad157.add ((x7_1).toNat * 2)).block, (ad157.add ((x7_1).toNat * 2)).off + 1, none⟩ = some (.slice A170_1 ((rd_T79 l0 x7_1).f1).length c170_1)) (ds := [10, 11]) #[false, false, false, false, false, false, false, false, false, false, false, false, false] (by kernel_rfl) rfl rfl ⟨(blk_cell BK156.out 0).trans rfl, (blk_cell BK156.out 1).trans rfl, (blk_cell BK156.out 2).trans rfl, hx170_0, hx170_1⟩ (fun hHeld => ?_); refine with_tabW thermographref11_Add.tab7 thermographref11_Add.bits7 (fun HT_ HW_ => ?_)
                          generalize w21.drew = w22 at HO_0 HL157_1 HO165 HO168 HL169_1 BK156 HR169_1 HB HL170_1 HR170_1 hx170_0 hx170_1 hHeld ⊢
                          refine pure_ (i := 0) (N := some 44) (v := ?_) (a' := ?_) #[true, false, false, false, false, false, false, false, false, false, false, false, false] rfl rfl (any_of HT_.out (by kernel_rfl)) (fun _ _ _ h => h) (Or.inl ⟨by rfl, ?_⟩) ?_ ?_
                          rotate_left
                          · intro w'
                            go_simp
                            with_reducible rfl
                          rotate_left
                          · simp only [Act.put, List.setIfInBounds_toArray, List.set_cons_zero, List.set_cons_succ, i64_w, i32_w]
                            rfl
                          refine pure_ (i := 1) (N := some 45) (v := ?_) (a' := ?_) #[true, true, false, false, false, false, false, false, false, false, false, false, false] rfl rfl (any_of HT_.out (by kernel_rfl)) (fun _ _ _ h => h) (Or.inl ⟨by rfl, ?_⟩) ?_ ?_
                          rotate_left
                          · intro w'
                            go_simp
                            with_reducible rfl
                          rotate_left
                          · simp only [Act.put, List.setIfInBounds_toArray, List.set_cons_zero, List.set_cons_succ, i64_w, i32_w]
                            rfl
                          refine pure_ (i := 2) (N := some 46) (v := ?_) (a' := ?_) #[true, true, true, false, false, false, false, false, false, false, false, false, false] rfl rfl (any_of HT_.out (by kernel_rfl)) (fun _ _ _ h => h) (Or.inl ⟨by rfl, ?_⟩) ?_ ?_
                          rotate_left
                          · intro w'
                            go_simp
                            with_reducible rfl
                          rotate_left
                          · simp only [Act.put, List.setIfInBounds_toArray, List.set_cons_zero, List.set_cons_succ, i64_w, i32_w]
                            rfl
                          refine pure_ (i := 3) (N := some 47) (v := ?_) (a' := ?_) #[true, true, true, true, false, false, false, false, false, false, false, false, false] rfl rfl (any_of HT_.out (by kernel_rfl)) (fun _ _ _ h => h) (Or.inl ⟨by rfl, ?_⟩) ?_ ?_
                          rotate_left
                          · intro w'
                            go_simp
                            with_reducible rfl
                          rotate_left
                          · simp only [Act.put, List.setIfInBounds_toArray, List.set_cons_zero, List.set_cons_succ, i64_w, i32_w]
                            rfl
                          refine pure_ (i := 4) (N := some 48) (v := ?_) (a' := ?_) #[true, true, true, true, true, false, false, false, false, false, false, false, false] rfl rfl (any_of HT_.out (by kernel_rfl)) (fun _ _ _ h => h) (Or.inl ⟨by rfl, ?_⟩) ?_ ?_
                          rotate_left
                          · intro w'
                            go_simp
                            with_reducible rfl
                          rotate_left
                          · simp only [Act.put, List.setIfInBounds_toArray, List.set_cons_zero, List.set_cons_succ, i64_w, i32_w]
                            rfl
                          refine pure_ (i := 5) (N := some 49) (v := ?_) (a' := ?_) #[true, true, true, true, true, true, false, false, false, false, false, false, false] rfl rfl (any_of HT_.out (by kernel_rfl)) (fun _ _ _ h => h) (Or.inl ⟨by rfl, ?_⟩) ?_ ?_
                          rotate_left
                          · intro w'
                            go_simp
                            with_reducible rfl
                          rotate_left
                          · simp only [Act.put, List.setIfInBounds_toArray, List.set_cons_zero, List.set_cons_succ, i64_w, i32_w]
                            rfl
                          refine take_ (i := 6) (N := some 50) (v := ?_) (a' := ?_) #[true, true, true, true, true, true, true, false, false, false, false, false, false] rfl rfl (take_ofW HT_.out HW_.out (by kernel_rfl)) (fun _ _ _ h => h) (Or.inl ⟨by rfl, ?_⟩) hHeld ?_ ?_
                          rotate_left
                          · rintro w' ⟨s0, s1, s2, s3, s4⟩
                            go_simp
                            with_reducible rfl
                          rotate_left
                          · simp only [Act.put, List.setIfInBounds_toArray, List.set_cons_zero, List.set_cons_succ, i64_w, i32_w]
                            rfl
                          refine take_ (i := 7) (N := some 51) (v := ?_) (a' := ?_) #[true, true, true, true, true, true, true, true, false, false, false, false, false] rfl rfl (take_ofW HT_.out HW_.out (by kernel_rfl)) (fun _ _ _ h => h) (Or.inl ⟨by rfl, ?_⟩) hHeld ?_ ?_
                          rotate_left
                          · rintro w' ⟨s0, s1, s2, s3, s4⟩
                            go_simp
                            with_reducible rfl
                          rotate_left
                          · simp only [Act.put, List.setIfInBounds_toArray, List.set_cons_zero, List.set_cons_succ, i64_w, i32_w]
                            rfl
                          refine one_ (i := 8) (N := some 52) #[true, true, true, true, true, true, true, true, true, false, false, false, false] rfl rfl (one_of HT_.out (by kernel_rfl)) (by decide) (fun K hK => ?_)
                          refine goes_ Try.func52 (by kernel_rfl) rfl #[.slice A170_1 ((rd_T79 l0 x7_1).f1).length c170_1, .agg #[.int .i64 a2_0, .int .u64 a2_1, .int .u64 a2_2]] (by rfl) rfl rfl (by (try simp only [List.map_toArray, List.map_cons, List.map_nil]); first | done | rfl | (simp only [List.length_drop, List.length_take]; rfl)) ?_
                          with_reducible refine (thermographref06_Add.calls k1 _ _ ((rd_T79 l0 x7_1).f1) a2_0 a2_1 a2_2 t171 _ ?side1 ?side2 A12.out).mono ?_
                          (case side1 => repeat (first | exact (by repeat (first | (with_reducible exact HR170_1.out) | (with_reducible refine Kd.C_alloc ?_ _) | (with_reducible refine Kd.C_drewN ?_ _) | (with_reducible refine Kd.C_drew ?_) | exact HR170_1.out)) | (with_reducible refine Kd.C_alloc ?_ _) | (with_reducible refine Kd.C_drewN ?_ _) | (with_reducible refine Kd.C_drew ?_)))
                          (case side2 => exact HC170_1.out)
                          rintro e w23 ⟨v172, rfl, ho0, hb⟩
                          have HS3_ := (hb.cell (World.block_lt_of_cell? _ _ (hHeld.2.2.2.1))).trans (hHeld.2.2.2.1)
                          have HS4_ := (hb.cell (World.block_lt_of_cell? _ _ (hHeld.2.2.2.2))).trans (hHeld.2.2.2.2)
                          refine ⟨_, rfl, ?_⟩
                          have n0_ := Aside0.mk (Kd.V_elder' (by (with_reducible repeat (first | apply Kd.V_alloc | apply Kd.V_drewN | apply Kd.V_drew)); exact HO_0.out) (Kd.R_base ho0) hb)
                          have n1_ := Aside0.mk (Kd.V_elder' (by (with_reducible repeat (first | apply Kd.V_alloc | apply Kd.V_drewN | apply Kd.V_drew)); exact HL157_1.out) (Kd.R_base ho0) hb)
                          have n2_ := Aside0.mk (Kd.V_elder' (by (with_reducible repeat (first | apply Kd.V_alloc | apply Kd.V_drewN | apply Kd.V_drew)); exact HO165.out) (Kd.R_base ho0) hb)
                          have n3_ := Aside0.mk (Kd.N_elder' (by (with_reducible repeat (first | apply Kd.N_alloc | apply Kd.N_drewN | apply Kd.N_drew)); exact HO168.out) (Kd.R_base ho0) hb)
                          have n4_ := Aside0.mk (Kd.V_elder' (by (with_reducible repeat (first | apply Kd.V_alloc | apply Kd.V_drewN | apply Kd.V_drew)); exact HL169_1.out) (Kd.R_base ho0) hb)
                          have n5_ := Aside0.mk (Kd.V_elder' (by (with_reducible repeat (first | apply Kd.V_alloc | apply Kd.V_drewN | apply Kd.V_drew)); exact HL170_1.out) (Kd.R_base ho0) hb)
                          have n6_ := Aside0.mk (Kd.R_lower (Kd.R_newB (Kd.R_newM (M := fun k_ => (w.heap.size ≤ k_)) ho0 (below_size (by repeat (first | (with_reducible first | exact HB.out | apply below_alloc | apply pw_below_drewN | apply below_drew1 | refine below_set ?_ GE156.out) | exact HB.out))) (fun k_ h_ => h_)) (g := gb156) (o := .cells #[.int .i64 a2_0, .int .u64 a2_1, .int .u64 a2_2] 24 (0, 0)) (by (with_reducible repeat (first | refine blk_drewN ?_ _ | refine blk_drew ?_ | refine blk_alloc ?_ _)); exact BK156.out)) (below_size (by repeat (first | (with_reducible first | exact HB.out | apply below_alloc | apply pw_below_drewN | apply below_drew1 | refine below_set ?_ GE156.out) | exact HB.out))))
                          have n7_ := Aside0.mk (blk_below (g := gb156) (o := .cells #[.int .i64 a2_0, .int .u64 a2_1, .int .u64 a2_2] 24 (0, 0)) (by (with_reducible repeat (first | refine blk_drewN ?_ _ | refine blk_drew ?_ | refine blk_alloc ?_ _)); exact BK156.out) hb)
                          have n8_ := Aside0.mk (Kd.C_below (by repeat (first | (with_reducible exact HR169_1.out) | (with_reducible refine Kd.C_alloc ?_ _) | (with_reducible refine Kd.C_drewN ?_ _) | (with_reducible refine Kd.C_drew ?_) | exact HR169_1.out)) hb)
                          have n9_ := Aside0.mk (Kd.C_below (by repeat (first | (with_reducible exact HR170_1.out) | (with_reducible refine Kd.C_alloc ?_ _) | (with_reducible refine Kd.C_drewN ?_ _) | (with_reducible refine Kd.C_drew ?_) | exact HR170_1.out)) hb)
                          have n10_ := Aside0.mk (below_step (by repeat (first | (with_reducible first | exact HB.out | apply below_alloc | apply pw_below_drewN | apply below_drew1 | refine below_set ?_ GE156.out) | exact HB.out)) hb)
                          clear HO_0
                          clear HL157_1
                          clear HO165
                          clear HO168
                          clear HL169_1
                          clear HL170_1
                          clear BK156
                          clear HR169_1
                          clear HR170_1
                          clear HB
                          have HO_0 := n0_
                          have HL157_1 := n1_
                          have HO165 := n2_
                          have HO168 := n3_
                          have HL169_1 := n4_
                          have HL170_1 := n5_
                          have HO173 := n6_
                          have BK156 := n7_
                          have HR169_1 := n8_
                          have HR170_1 := n9_
                          have HB := n10_
                          clear n0_ n1_ n2_ n3_ n4_ n5_ n6_ n7_ n8_ n9_ n10_
                          (try clear hb)
                          (try clear hb2)
                          (try clear hk)
                          (try clear hi)
                          (try clear ho0)
                          obtain ⟨Ao24, co24, eo24⟩ := Kd.R_slice HO173.out
                          (first | subst eo24 | (injection eo24 with f1_ f2_ f3_; have f4_ := f1_.symm; have f5_ := f3_.symm; clear f1_ f2_ f3_; subst f4_; subst f5_))
                          refine hK.out _ _ ⟨(blk_cell BK156.out 0).trans rfl, (blk_cell BK156.out 1).trans rfl, (blk_cell BK156.out 2).trans rfl, HS3_, HS4_⟩ (fun hHeld => ?_)
                          clear hK K
                          refine norm_ (a' := ?_) ?_ ?_
                          rotate_left
                          · show Act.put _ (some 52) _ = _
                            simp only [Act.put, List.setIfInBounds_toArray, List.set_cons_zero, List.set_cons_succ, i64_w, i32_w]
                            rfl
                          refine pure_ (i := 9) (N := some 53) (v := ?_) (a' := ?_) #[true, true, true, true, true, true, true, true, true, true, false, false, false] rfl rfl (any_of HT_.out (by kernel_rfl)) (fun _ _ _ h => h) (Or.inl ⟨by rfl, ?_⟩) ?_ ?_
                          rotate_left
                          · intro w'
                            go_simp
                            with_reducible rfl
                          rotate_left
                          · simp only [Act.put, List.setIfInBounds_toArray, List.set_cons_zero, List.set_cons_succ, i64_w, i32_w]
                            rfl
                          refine last_ (i := 10) (N := some 54) #[true, true, true, true, true, true, true, true, true, true, true, false, false] rfl rfl (one_of HT_.out (by kernel_rfl)) (by decide) (fun K hK => ?_)
                          refine value_ (w1 := ?_) (v := ?_) (by rfl) rfl ?_ ?_
                          rotate_left 2
                          · go_simp
                            constructor
                            · rfl
                            · rfl
                          refine hK.out _ _ ?_
                          clear hK K
                          refine norm_ (a' := ?_) ?_ ?_
                          rotate_left
                          · show Act.put _ (some 54) _ = _
                            simp only [Act.put, List.setIfInBounds_toArray, List.set_cons_zero, List.set_cons_succ, i64_w, i32_w]
                            rfl
                          refine last_ (i := 11) (N := some 55) #[true, true, true, true, true, true, true, true, true, true, true, true, false] rfl rfl (one_of HT_.out (by kernel_rfl)) (by decide) (fun K hK => ?_)
                          refine Kd.N_append_step k79 (w0 := w) w.heap.size (by rfl) (.tmp 44) (.tmp 54) 48 79 (.agg #[(.string ⟨#[]⟩), (.slice none 0 0)]) 40 rfl Try.underlying48 info79 rfl (by decide) (by omega) v167 y166 (⟨a1, t171⟩ : S79) [.string a1, .slice Ao24 t171.length co24] (fun k_ => (P0_ k_ ∨ w.heap.size ≤ k_) ∧ k_ ≠ gb156) (fun k_ => ((fun k_ => (P0_ k_ ∨ w.heap.size ≤ k_) ∧ k_ ≠ gb156)) k_ ∧ some k_ ≠ (v167 : Value).ownBlock) rfl rfl ?aP (fun _ hk => hk) ?aF ?aO ?aB ?aS ?aL ?_
                          (case aP => exact (k79_mkF _ _ (⟨a1, t171⟩ : S79) (Kd.R_reads' (Kd.R_mono (ok' := (fun k_ => ((fun k_ => (P0_ k_ ∨ w.heap.size ≤ k_) ∧ k_ ≠ gb156)) k_ ∧ some k_ ≠ (v167 : Value).ownBlock)) (Kd.R_apart' (HO173.out) (Kd.N_typed HO168.out) (by decide)) (fun k_ hk => ⟨⟨(.inr (hk.1.1.1)), hk.1.2⟩, hk.2⟩))).2.1 (Kd.R_F (Kd.R_mono (ok' := (fun k_ => ((fun k_ => (P0_ k_ ∨ w.heap.size ≤ k_) ∧ k_ ≠ gb156)) k_ ∧ some k_ ≠ (v167 : Value).ownBlock)) (Kd.R_apart' (HO173.out) (Kd.N_typed HO168.out) (by decide)) (fun k_ hk => ⟨⟨(.inr (hk.1.1.1)), hk.1.2⟩, hk.2⟩)))))
                          (case aB => exact (by repeat (first | (with_reducible first | exact HB.out | apply below_alloc | apply pw_below_drewN | apply below_drew1 | refine below_set ?_ GE156.out) | exact HB.out)))
                          (case aF => exact (fun k_ hk => ⟨(.inr (Nat.le_trans (below_size (by repeat (first | (with_reducible first | exact HB.out | apply below_alloc | apply pw_below_drewN | apply below_drew1 | refine below_set ?_ GE156.out) | exact HB.out))) hk)), Kd.freshB (g := gb156) (o := .cells #[.int .i64 a2_0, .int .u64 a2_1, .int .u64 a2_2] 24 (0, 0)) (by (with_reducible repeat (first | refine blk_drewN ?_ _ | refine blk_drew ?_ | refine blk_alloc ?_ _)); exact BK156.out) k_ hk⟩))
                          (case aO => exact (by (with_reducible repeat (first | apply Kd.N_alloc | apply Kd.N_drewN | apply Kd.N_drew)); exact Kd.N_mono HO168.out (fun _ hk => ⟨hk.1.1, hk.1.2⟩)))
                          (case aS => exact (below_size (by repeat (first | (with_reducible first | exact HB.out | apply below_alloc | apply pw_below_drewN | apply below_drew1 | refine below_set ?_ GE156.out) | exact HB.out))))
                          (case aL => have := LMc13.out; omega)
                          intro v175 w25 ho hb hg hat
                          rw [← Ny174.out] at ho
                          have n0_ := Aside0.mk (Kd.V_afterv (ok := (fun k_ => (P0_ k_ ∨ w.heap.size ≤ k_) ∧ some k_ ≠ (.slice Ao24 t171.length co24 : Value).ownBlock ∧ k_ ≠ gb156)) (by (with_reducible repeat (first | apply Kd.V_alloc | apply Kd.V_drewN | apply Kd.V_drew)); exact Kd.V_mono HO_0.out (fun _ hk => ⟨⟨hk.1.1.1, ⟨hk.2, hk.1.1.2⟩⟩, hk.1.2⟩)) hg hat)
                          have n1_ := Aside0.mk (blk_grown (g := gb156) (o := .cells #[.int .i64 a2_0, .int .u64 a2_1, .int .u64 a2_2] 24 (0, 0)) (by (with_reducible repeat (first | refine blk_drewN ?_ _ | refine blk_drew ?_ | refine blk_alloc ?_ _)); exact BK156.out) hg (Kd.N_ne HO168.out BK156.out (by decide)))
                          have n2_ := Aside0.mk (Kd.V_afterv (ok := (fun k_ => (P0_ k_ ∨ w.heap.size ≤ k_) ∧ some k_ ≠ (.slice Ao24 t171.length co24 : Value).ownBlock ∧ k_ ≠ gb156)) (by (with_reducible repeat (first | apply Kd.V_alloc | apply Kd.V_drewN | apply Kd.V_drew)); exact Kd.V_mono HL157_1.out (fun _ hk => ⟨⟨hk.1.1.1, ⟨hk.2, hk.1.1.2⟩⟩, hk.1.2⟩)) hg hat)
                          have n3_ := Aside0.mk (Kd.V_afterv (ok := (fun k_ => (P0_ k_ ∨ w.heap.size ≤ k_) ∧ some k_ ≠ (.slice Ao24 t171.length co24 : Value).ownBlock ∧ k_ ≠ gb156)) (by (with_reducible repeat (first | apply Kd.V_alloc | apply Kd.V_drewN | apply Kd.V_drew)); exact Kd.V_mono HO165.out (fun _ hk => ⟨⟨hk.1.1.1, ⟨hk.2, hk.1.1.2⟩⟩, hk.1.2⟩)) hg hat)
                          have n4_ := Aside0.mk (Kd.V_afterv (ok := (fun k_ => (P0_ k_ ∨ w.heap.size ≤ k_) ∧ some k_ ≠ (.slice Ao24 t171.length co24 : Value).ownBlock ∧ k_ ≠ gb156)) (by (with_reducible repeat (first | apply Kd.V_alloc | apply Kd.V_drewN | apply Kd.V_drew)); exact Kd.V_mono HL169_1.out (fun _ hk => ⟨⟨hk.1.1.1, ⟨hk.2, hk.1.1.2⟩⟩, hk.1.2⟩)) hg hat)
                          have n5_ := Aside0.mk (Kd.V_afterv (ok := (fun k_ => (P0_ k_ ∨ w.heap.size ≤ k_) ∧ some k_ ≠ (.slice Ao24 t171.length co24 : Value).ownBlock ∧ k_ ≠ gb156)) (by (with_reducible repeat (first | apply Kd.V_alloc | apply Kd.V_drewN | apply Kd.V_drew)); exact Kd.V_mono HL170_1.out (fun _ hk => ⟨⟨hk.1.1.1, ⟨hk.2, hk.1.1.2⟩⟩, hk.1.2⟩)) hg hat)
                          have n6_ := Aside0.mk (hb)
                          have n7_ := Aside0.mk (ho)
                          clear HO_0
                          clear BK156
                          clear HL157_1
                          clear HO165
                          clear HL169_1
                          clear HL170_1
                          clear HB
                          clear HO168
                          clear HO173
                          have HO_0 := n0_
                          have BK156 := n1_
                          have HL157_1 := n2_
                          have HO165 := n3_
                          have HL169_1 := n4_
                          have HL170_1 := n5_
                          have HB := n6_
                          have HO176 := n7_
                          clear n0_ n1_ n2_ n3_ n4_ n5_ n6_ n7_
                          clear ho hb hg hat
                          refine hK.out _ _ ?_
                          clear hK K
                          refine norm_ (a' := ?_) ?_ ?_
                          rotate_left
                          · show Act.put _ (some 55) _ = _
                            simp only [Act.put, List.setIfInBounds_toArray, List.set_cons_zero, List.set_cons_succ, i64_w, i32_w]
                            rfl
                          refine pure_ (i := 12) (N := some 8) (v := ?_) (a' := ?_) #[true, true, true, true, true, true, true, true, true, true, true, true, true] rfl rfl (any_of HT_.out (by kernel_rfl)) (fun _ _ _ h => h) (Or.inl ⟨by rfl, ?_⟩) ?_ ?_
                          rotate_left
                          · intro w'
                            go_simp
                            with_reducible rfl
                          rotate_left
                          · simp only [Act.put, List.setIfInBounds_toArray, List.set_cons_zero, List.set_cons_succ, i64_w, i32_w]
                            rfl
                          refine done_ (done_of HT_.out (by kernel_rfl)) ?_
                          have q26 : ((ji14) : Int) ≤ ((l0.length : Int) : Int) := of_decide_eq_true (by first | (with_reducible assumption) | assumption)
                          obtain ⟨i026, hi026, _, hsz26, _⟩ := info_parts info79
                          have hroom26 : l0.length ≤ c0 := (Kd.V_reads' HO_0.out).2.1
                          have hC26 : Kd.F k79 _ _ (some ad157) l0.length l0 := (Kd.V_at (base := w.heap.size) HO_0.out).2.2
                          have q026 : (0 : Int) ≤ ((ji14) : Int) := of_decide_eq_true (by first | (with_reducible assumption) | assumption)
                          have hcut26 := cut_from (P := Try.prog) 48 79 .i64 Try.underlying48 hi026 2 hsz26 (some ad157) l0.length c0 (ji14) q026 q26
                          have hr26 := Kd.F_cut (m := ((ji14) : Int).toNat) (c := c0) hC26 (by omega) hroom26
                          obtain ⟨A26, hA26⟩ : ∃ A1, A1 = (if c0 = ((ji14) : Int).toNat then (some ad157) else ((some ad157) : Option Addr).map (·.add (((ji14) : Int).toNat * 2))) := ⟨_, rfl⟩
                          obtain ⟨c26, hc26⟩ : ∃ c1, c1 = c0 - ((ji14) : Int).toNat := ⟨_, rfl⟩
                          have hy26 : y177.length = l0.length - ((ji14) : Int).toNat := (by rw [Ny177.out, List.length_drop] <;> omega)
                          rw [show (l0).drop ((ji14) : Int).toNat = y177 from Ny177.out.symm] at hr26
                          replace hr26 : Kd.F k79 _ _ A26 y177.length y177 := (by rw [hA26]; exact hr26)
                          rw [← hy26, ← hA26, ← hc26] at hcut26
                          have HO181 := Aside0.mk (show Kd.V k79 79 _ w.heap.size _ (.slice A26 y177.length c26) y177 from Kd.V_mk (by rw [hy26, hc26]; exact Nat.sub_le_sub_right hroom26 _) hr26)
                          have HC181 := Aside0.mk (show y177.length ≤ c26 from by rw [hy26, hc26]; exact Nat.sub_le_sub_right hroom26 _)
                          clear hr26 hC26 hroom26 hi026 hsz26 hc26
                          have KY26 := Aside0.mk hy26
                          have KA26 := Aside0.mk hA26
                          clear hy26 hA26
                          replace q26 := eq_true q26
                          try go_wp2_with (first | ((with_reducible refine gate_builtin (b := .append) (xs := #[.tmp 56, .tmp 60]) rfl ?_); at_builtin; refine Kd.N_append_rows k79 (w0 := w) w.heap.size rfl (.tmp 56) (.tmp 60) 48 79 (.agg #[(.string ⟨#[]⟩), (.slice none 0 0)]) 40 rfl Try.underlying48 info79 rfl (by decide) (by omega) v175 y174 y177 _ _ _ (fun k_ => (P0_ k_ ∨ w.heap.size ≤ k_) ∧ k_ ≠ gb156) (fun k_ => ((fun k_ => (P0_ k_ ∨ w.heap.size ≤ k_) ∧ k_ ≠ gb156)) k_ ∧ some k_ ≠ (v175 : Value).ownBlock) rfl rfl ?aO ?aR (fun _ hk => hk) ?aF ?aB ?aS ?aL ?_; (case aR => exact (by skip; exact Kd.V_F (Kd.V_mono (ok' := (fun k_ => ((fun k_ => (P0_ k_ ∨ w.heap.size ≤ k_) ∧ k_ ≠ gb156)) k_ ∧ some k_ ≠ (v175 : Value).ownBlock)) (HO181.out) (fun k_ hk => ⟨⟨hk.1.1, hk.1.2.2⟩, hk.2⟩)))); (case aB => exact (by repeat (first | (with_reducible first | exact HB.out | apply below_alloc | apply pw_below_drewN | apply below_drew1 | refine below_set ?_ GE156.out) | exact HB.out))); (case aF => exact (fun k_ hk => ⟨(.inr (Nat.le_trans (below_size (by repeat (first | (with_reducible first | exact HB.out | apply below_alloc | apply pw_below_drewN | apply below_drew1 | refine below_set ?_ GE156.out) | exact HB.out))) hk)), Kd.freshB (g := gb156) (o := .cells #[.int .i64 a2_0, .int .u64 a2_1, .int .u64 a2_2] 24 (0, 0)) (by (with_reducible repeat (first | refine blk_drewN ?_ _ | refine blk_drew ?_ | refine blk_alloc ?_ _)); exact BK156.out) k_ hk⟩)); (case aO => exact (by (with_reducible repeat (first | apply Kd.N_alloc | apply Kd.N_drewN | apply Kd.N_drew)); exact HO176.out)); (case aS => exact (below_size (by repeat (first | (with_reducible first | exact HB.out | apply below_alloc | apply pw_below_drewN | apply below_drew1 | refine below_set ?_ GE156.out) | exact HB.out)))); (case aL => have := LMc17.out; omega); intro v183 w27 ho hb hg hat; rw [← Ny182.out] at ho; have n0_ := Aside0.mk (Kd.V_afterv (ok := (fun k_ => (P0_ k_ ∨ w.heap.size ≤ k_) ∧ k_ ≠ gb156)) (by (with_reducible repeat (first | apply Kd.V_alloc | apply Kd.V_drewN | apply Kd.V_drew)); exact Kd.V_mono HO_0.out (fun _ hk => ⟨⟨hk.1.1, hk.1.2.2⟩, hk.2⟩)) hg hat); have n1_ := Aside0.mk (blk_grown (g := gb156) (o := .cells #[.int .i64 a2_0, .int .u64 a2_1, .int .u64 a2_2] 24 (0, 0)) (by (with_reducible repeat (first | refine blk_drewN ?_ _ | refine blk_drew ?_ | refine blk_alloc ?_ _)); exact BK156.out) hg (Kd.N_ne HO176.out BK156.out (by decide))); have n2_ := Aside0.mk (Kd.V_afterv (ok := (fun k_ => (P0_ k_ ∨ w.heap.size ≤ k_) ∧ k_ ≠ gb156)) (by (with_reducible repeat (first | apply Kd.V_alloc | apply Kd.V_drewN | apply Kd.V_drew)); exact Kd.V_mono HL157_1.out (fun _ hk => ⟨⟨hk.1.1, hk.1.2.2⟩, hk.2⟩)) hg hat); have n3_ := Aside0.mk (Kd.V_afterv (ok := (fun k_ => (P0_ k_ ∨ w.heap.size ≤ k_) ∧ k_ ≠ gb156)) (by (with_reducible repeat (first | apply Kd.V_alloc | apply Kd.V_drewN | apply Kd.V_drew)); exact Kd.V_mono HO165.out (fun _ hk => ⟨⟨hk.1.1, hk.1.2.2⟩, hk.2⟩)) hg hat); have n4_ := Aside0.mk (Kd.V_afterv (ok := (fun k_ => (P0_ k_ ∨ w.heap.size ≤ k_) ∧ k_ ≠ gb156)) (by (with_reducible repeat (first | apply Kd.V_alloc | apply Kd.V_drewN | apply Kd.V_drew)); exact Kd.V_mono HL169_1.out (fun _ hk => ⟨⟨hk.1.1, hk.1.2.2⟩, hk.2⟩)) hg hat); have n5_ := Aside0.mk (Kd.V_afterv (ok := (fun k_ => (P0_ k_ ∨ w.heap.size ≤ k_) ∧ k_ ≠ gb156)) (by (with_reducible repeat (first | apply Kd.V_alloc | apply Kd.V_drewN | apply Kd.V_drew)); exact Kd.V_mono HL170_1.out (fun _ hk => ⟨⟨hk.1.1, hk.1.2.2⟩, hk.2⟩)) hg hat); have n6_ := Aside0.mk (Kd.V_afterv (ok := (fun k_ => (P0_ k_ ∨ w.heap.size ≤ k_) ∧ k_ ≠ gb156)) (by (with_reducible repeat (first | apply Kd.V_alloc | apply Kd.V_drewN | apply Kd.V_drew)); exact Kd.V_mono HO181.out (fun _ hk => ⟨⟨hk.1.1, hk.1.2.2⟩, hk.2⟩)) hg hat); have n7_ := Aside0.mk (hb); have n8_ := Aside0.mk (ho); clear HO_0; clear BK156; clear HL157_1; clear HO165; clear HL169_1; clear HL170_1; clear HO181; clear HB; clear HO176; have HO_0 := n0_; have BK156 := n1_; have HL157_1 := n2_; have HO165 := n3_; have HL169_1 := n4_; have HL170_1 := n5_; have HO181 := n6_; have HB := n7_; have HO184 := n8_; clear n0_ n1_ n2_ n3_ n4_ n5_ n6_ n7_ n8_; clear ho hb hg hat))
                          go_ret
                          exact ⟨_, by first | rfl | (simp [errW_none, errW_some] <;> rfl) | (simp only [← hji14]; first | rfl | (simp [errW_none, errW_some] <;> rfl)) | (simp [*, errW_none, errW_some] <;> rfl), by (with_reducible repeat (first | apply Kd.N_alloc | apply Kd.N_drewN | apply Kd.N_drew)); exact Kd.N_mono HO184.out (fun _ hk => hk.1), by repeat (first | (with_reducible first | exact HB.out | apply below_alloc | apply pw_below_drewN | apply below_drew1 | refine below_set ?_ GE156.out) | exact HB.out)⟩
                        · rw [if_neg c17] at H
                          exact absurd H (by simp)
                      · rw [if_neg c16] at H
                        exact absurd H (by simp)
                    · rw [if_neg c15] at H
                      exact absurd H (by simp)
                  · rw [if_neg c13] at H
                    exact absurd H (by simp)
                · rw [if_neg c11] at H
                  have c11b0 : (((rd_T79 l0 x7_1).f0).toList == a1.toList) = false := beq_eq_false_iff_ne.mpr c11
                  have c11b1 : (((rd_T79 l0 x7_1).f0).toList != a1.toList) = true := bne_iff_ne.mpr c11
                  obtain ⟨y185, hy185⟩ : ∃ y_ : List (S24), y_ = (([(⟨a2_0, a2_1, a2_2⟩ : S24)] : List (S24))) := ⟨_, rfl⟩
                  replace H : (if y166.length < 3518437208883 then ((some (y166 ++ [(⟨a1, y185⟩ : S79)] : List (S79))).bind fun y188 => ((some (l0.drop (x7_1 : Int).toNat : List (S79))).bind fun y191 => (if y188.length + y191.length < 3518437208883 then (some (y188 ++ y191)) else (none)))) else (none)) = some r := by first | (rw [hy185]; with_reducible exact H) | (have H2_ := (Option.bind_some _ _).symm.trans H; rw [hy185]; with_reducible exact H2_) | (have H2_ := (Option.bind_some _ _).symm.trans H; with_reducible exact H2_) | with_reducible exact H | (rw [hy185]; exact H) | exact H
                  have Ny185 := Aside0.mk hy185
                  clear hy185
                  by_cases c28 : y166.length < 3518437208883
                  · rw [if_pos c28] at H
                    have LMc28 := Aside0.mk c28
                    clear c28
                    obtain ⟨y188, hy188⟩ : ∃ y_ : List (S79), y_ = (y166 ++ [(⟨a1, y185⟩ : S79)]) := ⟨_, rfl⟩
                    replace H : ((some (l0.drop (x7_1 : Int).toNat : List (S79))).bind fun y191 => (if y188.length + y191.length < 3518437208883 then (some (y188 ++ y191)) else (none))) = some r := by first | (rw [hy188]; with_reducible exact H) | (have H2_ := (Option.bind_some _ _).symm.trans H; rw [hy188]; with_reducible exact H2_) | (have H2_ := (Option.bind_some _ _).symm.trans H; with_reducible exact H2_) | with_reducible exact H | (rw [hy188]; exact H) | exact H
                    have Ny188 := Aside0.mk hy188
                    clear hy188
                    have c29b0 := eq_true (of_decide_eq_true (by first | (with_reducible assumption) | assumption) : 0 ≤ x7_1)
                    have c30b0 := eq_true (of_decide_eq_true (by first | (with_reducible assumption) | assumption) : x7_1 ≤ (l0.length : Int))
                    obtain ⟨y191, hy191⟩ : ∃ y_ : List (S79), y_ = (l0.drop (x7_1 : Int).toNat) := ⟨_, rfl⟩
                    replace H : (if y188.length + y191.length < 3518437208883 then (some (y188 ++ y191)) else (none)) = some r := by first | (rw [hy191]; with_reducible exact H) | (have H2_ := (Option.bind_some _ _).symm.trans H; rw [hy191]; with_reducible exact H2_) | (have H2_ := (Option.bind_some _ _).symm.trans H; with_reducible exact H2_) | with_reducible exact H | (rw [hy191]; exact H) | exact H
                    have Ny191 := Aside0.mk hy191
                    clear hy191
                    by_cases c31 : y188.length + y191.length < 3518437208883
                    · rw [if_pos c31] at H
                      have LMc31 := Aside0.mk c31
                      clear c31
                      obtain ⟨y196, hy196⟩ : ∃ y_ : List (S79), y_ = (y188 ++ y191) := ⟨_, rfl⟩
                      replace H : (some y196) = some r := by first | (rw [hy196]; with_reducible exact H) | (have H2_ := (Option.bind_some _ _).symm.trans H; rw [hy196]; with_reducible exact H2_) | (have H2_ := (Option.bind_some _ _).symm.trans H; with_reducible exact H2_) | with_reducible exact H | (rw [hy196]; exact H) | exact H
                      have Ny196 := Aside0.mk hy196
                      clear hy196
                      obtain rfl := Option.some.inj H
                      have p157 : 0 ≤ (x7_1 : Int) := of_decide_eq_true (by first | (with_reducible assumption) | assumption)
                      have q157 : x7_1 < (l0.length : Int) := of_decide_eq_true (by first | (with_reducible assumption) | assumption)
                      obtain ⟨ad157, A157_1, c157_1, e157, hx157_0, hx157_1, hl157_1, hi157_1⟩ := at_T79 (Kd.V_reads' HO_0.out).2.2 x7_1 p157 q157
                      cases e157
                      obtain ⟨ce157, hce157, hMe157, hcc157⟩ := Kd.V_get HO_0.out z79 x7_1 p157 (by first | exact q157 | exact of_decide_eq_true (by first | (with_reducible assumption) | assumption) | (have e_ := (Kd.V_reads' HO_0.out).1; omega))
                      obtain ⟨ua157_1, uc157_1, rfl, ul157_1, ge157_1⟩ := k79_openF hMe157
                      have hv157_1 := hcc157 1 _ rfl
                      rw [add_field _ _ 1 (by omega)] at hv157_1
                      replace hv157_1 := Option.some.inj (hv157_1.symm.trans hx157_1)
                      injection hv157_1 with hva_ hvn_ hvc_
                      rw [hva_] at ge157_1
                      rw [hvc_] at ul157_1
                      have HL157_1 := Aside0.mk (show Kd.V k24 24 _ w.heap.size _ _ ((rd_T79 l0 x7_1).f1) from Kd.V_mk ul157_1 ge157_1)
                      clear hva_ hvn_ hvc_ ge157_1 ul157_1
                      clear hcc157 hce157
                      have HR157_1 := Aside0.mk hi157_1
                      have HC157_1 := Aside0.mk hl157_1
                      clear hi157_1 hl157_1
                      replace p157 := eq_true p157
                      replace q157 := eq_true q157
                      go_wp2_with (first | ((with_reducible refine gate_dst (N := 25) rfl ?_); refine Kd.N_lit k79 _ 79 ?hg (N' := 25) ?hd (xs := ([] : List (S79))) (inner := []) (ok := (fun k_ => (P0_ k_ ∨ w.heap.size ≤ k_) ∧ k_ ≠ gb156)) (okp := (fun k_ => (P0_ k_ ∨ w.heap.size ≤ k_) ∧ k_ ≠ gb156)) ?hr ?hp (fun _ hk => hk) ((show ∀ k_, wr.heap.size ≤ k_ → (fun k_ => (P0_ k_ ∨ w.heap.size ≤ k_) ∧ k_ ≠ gb156) k_ from fun k_ hk => ⟨(.inr (Nat.le_trans (below_size (by repeat (first | (with_reducible first | exact HB.out | apply below_alloc | apply pw_below_drewN | apply below_drew1 | refine below_set ?_ GE156.out) | exact HB.out))) hk)), Kd.freshB (g := gb156) (o := .cells #[.int .i64 a2_0, .int .u64 a2_1, .int .u64 a2_2] 24 (0, 0)) (by (with_reducible repeat (first | refine blk_drewN ?_ _ | refine blk_drew ?_ | refine blk_alloc ?_ _)); exact BK156.out) k_ hk⟩) _ (Nat.le_refl _)) (Below.refl _ _) (Nat.le_refl _) (by simp) ?_; (case hd => rfl); (case hg => rfl); (case hr => first | (go_simp; done) | (go_simp; rfl)); (case hp => exact (Reps.none _ _)); intro v159 w32 ho33 hb hg_ hnew_; clear hg_ hnew_; (first | rw [← Ny158.out] at ho33 | (simp only [Int.reduceToNat] at ho33; rw [← Ny158.out] at ho33)); have n0_ := Aside0.mk (Kd.V_elder' (by (with_reducible repeat (first | apply Kd.V_alloc | apply Kd.V_drewN | apply Kd.V_drew)); exact HO_0.out) (Kd.N_base ho33) hb); have n1_ := Aside0.mk (Kd.V_elder' (by (with_reducible repeat (first | apply Kd.V_alloc | apply Kd.V_drewN | apply Kd.V_drew)); exact HL157_1.out) (Kd.N_base ho33) hb); have n2_ := Aside0.mk (Kd.N_lower ho33 (below_size (by repeat (first | (with_reducible first | exact HB.out | apply below_alloc | apply pw_below_drewN | apply below_drew1 | refine below_set ?_ GE156.out) | exact HB.out)))); have n3_ := Aside0.mk (blk_below (g := gb156) (o := .cells #[.int .i64 a2_0, .int .u64 a2_1, .int .u64 a2_2] 24 (0, 0)) (by (with_reducible repeat (first | refine blk_drewN ?_ _ | refine blk_drew ?_ | refine blk_alloc ?_ _)); exact BK156.out) hb); have n4_ := Aside0.mk (Kd.C_below (by repeat (first | (with_reducible exact HR157_1.out) | (with_reducible refine Kd.C_alloc ?_ _) | (with_reducible refine Kd.C_drewN ?_ _) | (with_reducible refine Kd.C_drew ?_) | exact HR157_1.out)) hb); have n5_ := Aside0.mk (below_step (by repeat (first | (with_reducible first | exact HB.out | apply below_alloc | apply pw_below_drewN | apply below_drew1 | refine below_set ?_ GE156.out) | exact HB.out)) hb); clear HO_0; clear HL157_1; clear BK156; clear HR157_1; clear HB; have HO_0 := n0_; have HL157_1 := n1_; have HO160 := n2_; have BK156 := n3_; have HR157_1 := n4_; have HB := n5_; clear n0_ n1_ n2_ n3_ n4_ n5_; clear hb ho33; have q34 : (x7_1 : Int) ≤ ((l0.length : Int) : Int) := of_decide_eq_true (by first | (with_reducible assumption) | assumption); obtain ⟨i034, hi034, _, hsz34, _⟩ := info_parts info79; have hroom34 : l0.length ≤ c0 := (Kd.V_reads' HO_0.out).2.1; have hC34 : Kd.F k79 _ _ (some ad157) l0.length l0 := (Kd.V_at (base := w.heap.size) HO_0.out).2.2; have hcut34 := cut_to (P := Try.prog) 48 79 .i64 Try.underlying48 hi034 (some ad157) l0.length c0 x7_1 (of_decide_eq_true (by first | (with_reducible assumption) | assumption)) q34 hroom34; have hr34 := Kd.F_take (m := (x7_1 : Int).toNat) hC34 (by omega); have hy34 : y161.length = (x7_1 : Int).toNat := (by rw [Ny161.out, List.length_take]; omega); rw [← Ny161.out] at hr34; rw [← hy34] at hcut34; have HO165 := Aside0.mk (show Kd.V k79 79 _ w.heap.size _ (.slice (some ad157) y161.length c0) y161 from Kd.V_mk (by omega) hr34); have HC165 := Aside0.mk (show y161.length ≤ c0 from by omega); clear hr34 hC34 hroom34 hi034 hsz34; have KY34 := Aside0.mk hy34; clear hy34; replace q34 := eq_true q34) | ((with_reducible refine gate_builtin (b := .append) (xs := #[.tmp 26, .tmp 29]) rfl ?_); at_builtin; refine Kd.N_append_rows k79 (w0 := w) w.heap.size rfl (.tmp 26) (.tmp 29) 48 79 (.agg #[(.string ⟨#[]⟩), (.slice none 0 0)]) 40 rfl Try.underlying48 info79 rfl (by decide) (by omega) v159 y158 y161 _ _ _ (fun k_ => (P0_ k_ ∨ w.heap.size ≤ k_) ∧ k_ ≠ gb156) (fun k_ => ((fun k_ => (P0_ k_ ∨ w.heap.size ≤ k_) ∧ k_ ≠ gb156)) k_ ∧ some k_ ≠ (v159 : Value).ownBlock) rfl rfl ?aO ?aR (fun _ hk => hk) ?aF ?aB ?aS ?aL ?_; (case aR => exact (by skip; exact Kd.V_F (Kd.V_mono (ok' := (fun k_ => ((fun k_ => (P0_ k_ ∨ w.heap.size ≤ k_) ∧ k_ ≠ gb156)) k_ ∧ some k_ ≠ (v159 : Value).ownBlock)) (HO165.out) (fun k_ hk => ⟨⟨hk.1.1, hk.1.2⟩, hk.2⟩)))); (case aB => exact (by repeat (first | (with_reducible first | exact HB.out | apply below_alloc | apply pw_below_drewN | apply below_drew1 | refine below_set ?_ GE156.out) | exact HB.out))); (case aF => exact (fun k_ hk => ⟨(.inr (Nat.le_trans (below_size (by repeat (first | (with_reducible first | exact HB.out | apply below_alloc | apply pw_below_drewN | apply below_drew1 | refine below_set ?_ GE156.out) | exact HB.out))) hk)), Kd.freshB (g := gb156) (o := .cells #[.int .i64 a2_0, .int .u64 a2_1, .int .u64 a2_2] 24 (0, 0)) (by (with_reducible repeat (first | refine blk_drewN ?_ _ | refine blk_drew ?_ | refine blk_alloc ?_ _)); exact BK156.out) k_ hk⟩)); (case aO => exact (by (with_reducible repeat (first | apply Kd.N_alloc | apply Kd.N_drewN | apply Kd.N_drew)); exact HO160.out)); (case aS => exact (below_size (by repeat (first | (with_reducible first | exact HB.out | apply below_alloc | apply pw_below_drewN | apply below_drew1 | refine below_set ?_ GE156.out) | exact HB.out)))); (case aL => have := LMc10.out; omega); intro v167 w35 ho hb hg hat; rw [← Ny166.out] at ho; have n0_ := Aside0.mk (Kd.V_afterv (ok := (fun k_ => (P0_ k_ ∨ w.heap.size ≤ k_) ∧ k_ ≠ gb156)) (by (with_reducible repeat (first | apply Kd.V_alloc | apply Kd.V_drewN | apply Kd.V_drew)); exact HO_0.out) hg hat); have n1_ := Aside0.mk (blk_grown (g := gb156) (o := .cells #[.int .i64 a2_0, .int .u64 a2_1, .int .u64 a2_2] 24 (0, 0)) (by (with_reducible repeat (first | refine blk_drewN ?_ _ | refine blk_drew ?_ | refine blk_alloc ?_ _)); exact BK156.out) hg (Kd.N_ne HO160.out BK156.out (by decide))); have n2_ := Aside0.mk (Kd.V_afterv (ok := (fun k_ => (P0_ k_ ∨ w.heap.size ≤ k_) ∧ k_ ≠ gb156)) (by (with_reducible repeat (first | apply Kd.V_alloc | apply Kd.V_drewN | apply Kd.V_drew)); exact HL157_1.out) hg hat); have n3_ := Aside0.mk (Kd.V_afterv (ok := (fun k_ => (P0_ k_ ∨ w.heap.size ≤ k_) ∧ k_ ≠ gb156)) (by (with_reducible repeat (first | apply Kd.V_alloc | apply Kd.V_drewN | apply Kd.V_drew)); exact HO165.out) hg hat); have n4_ := Aside0.mk (hb); have n5_ := Aside0.mk (ho); clear HO_0; clear BK156; clear HL157_1; clear HO165; clear HB; clear HO160; have HO_0 := n0_; have BK156 := n1_; have HL157_1 := n2_; have HO165 := n3_; have HB := n4_; have HO168 := n5_; clear n0_ n1_ n2_ n3_ n4_ n5_; clear ho hb hg hat; have p169 : 0 ≤ (x7_1 : Int) := of_decide_eq_true (by first | (with_reducible assumption) | assumption); have q169 : x7_1 < (l0.length : Int) := of_decide_eq_true (by first | (with_reducible assumption) | assumption); obtain ⟨ad169, A169_1, c169_1, e169, hx169_0, hx169_1, hl169_1, hi169_1⟩ := at_T79 (Kd.V_reads' HO_0.out).2.2 x7_1 p169 q169; obtain rfl : ad157 = ad169 := (by injection e169); obtain ⟨ce169, hce169, hMe169, hcc169⟩ := Kd.V_get HO_0.out z79 x7_1 p169 (by first | exact q169 | exact of_decide_eq_true (by first | (with_reducible assumption) | assumption) | (have e_ := (Kd.V_reads' HO_0.out).1; omega)); obtain ⟨ua169_1, uc169_1, rfl, ul169_1, ge169_1⟩ := k79_openF hMe169; have hv169_1 := hcc169 1 _ rfl; rw [add_field _ _ 1 (by omega)] at hv169_1; replace hv169_1 := Option.some.inj (hv169_1.symm.trans hx169_1); injection hv169_1 with hva_ hvn_ hvc_; rw [hva_] at ge169_1; rw [hvc_] at ul169_1; have HL169_1 := Aside0.mk (show Kd.V k24 24 _ w.heap.size _ _ ((rd_T79 l0 x7_1).f1) from Kd.V_mk ul169_1 ge169_1); clear hva_ hvn_ hvc_ ge169_1 ul169_1; clear hcc169 hce169; have HR169_1 := Aside0.mk hi169_1; have HC169_1 := Aside0.mk hl169_1; clear hi169_1 hl169_1; replace p169 := eq_true p169; replace q169 := eq_true q169; have hcz36_0 : w35.cell? ⟨gb156, 0, none⟩ = some (.int .i64 a2_0) := (blk_cell BK156.out 0).trans rfl; have hcz36_1 : w35.cell? ⟨gb156, 1, none⟩ = some (.int .u64 a2_1) := (blk_cell BK156.out 1).trans rfl; have hcz36_2 : w35.cell? ⟨gb156, 2, none⟩ = some (.int .u64 a2_2) := (blk_cell BK156.out 2).trans rfl; have hfz36_0 := blk_frozen BK156.out 0; have hfz36_1 := blk_frozen BK156.out 1; have hfz36_2 := blk_frozen BK156.out 2) | ((with_reducible refine gate_dst (N := 63) rfl ?_); refine Kd.R_lit k24 _ 24 ?hg (N := 63) ?hd (xs := ([(⟨a2_0, a2_1, a2_2⟩ : S24)] : List (S24))) (inner := [.int .i64 a2_0, .int .u64 a2_1, .int .u64 a2_2]) (ok := fun _ => True) (okp := fun _ => True) ?hr ?hp (fun _ hk => hk) trivial (Below.refl _ _) (Nat.le_refl _) (by simp) ?_; (case hd => rfl); (case hg => rfl); (case hr => first | (go_simp; done) | (go_simp; rfl)); (case hp => exact (Reps.c3 (show Kd.M k24 _ _ _ (⟨a2_0, a2_1, a2_2⟩ : S24) [.int .i64 a2_0, .int .u64 a2_1, .int .u64 a2_2] from (k24_mkM _ _ _ (⟨a2_0, a2_1, a2_2⟩ : S24) )) (Reps.none _ _))); intro v186 w37 ho38 hb hg_ hnew_; clear hg_ hnew_; (first | rw [← Ny185.out] at ho38 | (simp only [Int.reduceToNat] at ho38; rw [← Ny185.out] at ho38)); have n0_ := Aside0.mk (Kd.V_elder' (by (with_reducible repeat (first | apply Kd.V_alloc | apply Kd.V_drewN | apply Kd.V_drew)); exact HO_0.out) (Kd.R_base ho38) hb); have n1_ := Aside0.mk (Kd.V_elder' (by (with_reducible repeat (first | apply Kd.V_alloc | apply Kd.V_drewN | apply Kd.V_drew)); exact HL157_1.out) (Kd.R_base ho38) hb); have n2_ := Aside0.mk (Kd.V_elder' (by (with_reducible repeat (first | apply Kd.V_alloc | apply Kd.V_drewN | apply Kd.V_drew)); exact HO165.out) (Kd.R_base ho38) hb); have n3_ := Aside0.mk (Kd.N_elder' (by (with_reducible repeat (first | apply Kd.N_alloc | apply Kd.N_drewN | apply Kd.N_drew)); exact HO168.out) (Kd.R_base ho38) hb); have n4_ := Aside0.mk (Kd.V_elder' (by (with_reducible repeat (first | apply Kd.V_alloc | apply Kd.V_drewN | apply Kd.V_drew)); exact HL169_1.out) (Kd.R_base ho38) hb); have n5_ := Aside0.mk (Kd.R_lower (Kd.R_newB (Kd.R_newM (M := fun k_ => (w.heap.size ≤ k_)) ho38 (below_size (by repeat (first | (with_reducible first | exact HB.out | apply below_alloc | apply pw_below_drewN | apply below_drew1 | refine below_set ?_ GE156.out) | exact HB.out))) (fun k_ h_ => h_)) (g := gb156) (o := .cells #[.int .i64 a2_0, .int .u64 a2_1, .int .u64 a2_2] 24 (0, 0)) (by (with_reducible repeat (first | refine blk_drewN ?_ _ | refine blk_drew ?_ | refine blk_alloc ?_ _)); exact BK156.out)) (below_size (by repeat (first | (with_reducible first | exact HB.out | apply below_alloc | apply pw_below_drewN | apply below_drew1 | refine below_set ?_ GE156.out) | exact HB.out)))); have n6_ := Aside0.mk (blk_below (g := gb156) (o := .cells #[.int .i64 a2_0, .int .u64 a2_1, .int .u64 a2_2] 24 (0, 0)) (by (with_reducible repeat (first | refine blk_drewN ?_ _ | refine blk_drew ?_ | refine blk_alloc ?_ _)); exact BK156.out) hb); have n7_ := Aside0.mk (Kd.C_below (by repeat (first | (with_reducible exact HR169_1.out) | (with_reducible refine Kd.C_alloc ?_ _) | (with_reducible refine Kd.C_drewN ?_ _) | (with_reducible refine Kd.C_drew ?_) | exact HR169_1.out)) hb); have n8_ := Aside0.mk (below_step (by repeat (first | (with_reducible first | exact HB.out | apply below_alloc | apply pw_below_drewN | apply below_drew1 | refine below_set ?_ GE156.out) | exact HB.out)) hb); clear HO_0; clear HL157_1; clear HO165; clear HO168; clear HL169_1; clear BK156; clear HR169_1; clear HB; have HO_0 := n0_; have HL157_1 := n1_; have HO165 := n2_; have HO168 := n3_; have HL169_1 := n4_; have HO187 := n5_; have BK156 := n6_; have HR169_1 := n7_; have HB := n8_; clear n0_ n1_ n2_ n3_ n4_ n5_ n6_ n7_ n8_; clear hb ho38; obtain ⟨Ao39, co39, eo39⟩ := Kd.R_slice HO187.out; subst eo39) | ((with_reducible refine gate_builtin (b := .append) (xs := #[.tmp 64, .tmp 68]) rfl ?_); at_builtin; refine Kd.N_append k79 (w0 := w) w.heap.size rfl (.tmp 64) (.tmp 68) 48 79 (.agg #[(.string ⟨#[]⟩), (.slice none 0 0)]) 40 rfl Try.underlying48 info79 rfl (by decide) (by omega) v167 y166 (⟨a1, y185⟩ : S79) [.string a1, .slice Ao39 y185.length co39] (fun k_ => (P0_ k_ ∨ w.heap.size ≤ k_) ∧ k_ ≠ gb156) (fun k_ => ((fun k_ => (P0_ k_ ∨ w.heap.size ≤ k_) ∧ k_ ≠ gb156)) k_ ∧ some k_ ≠ (v167 : Value).ownBlock) rfl rfl ?aP (fun _ hk => hk) ?aF ?aO ?aB ?aS ?aL ?_; (case aP => exact (k79_mkF _ _ (⟨a1, y185⟩ : S79) (Kd.R_reads' (Kd.R_mono (ok' := (fun k_ => ((fun k_ => (P0_ k_ ∨ w.heap.size ≤ k_) ∧ k_ ≠ gb156)) k_ ∧ some k_ ≠ (v167 : Value).ownBlock)) (Kd.R_apart' (HO187.out) (Kd.N_typed HO168.out) (by decide)) (fun k_ hk => ⟨⟨(.inr (hk.1.1.1)), hk.1.2⟩, hk.2⟩))).2.1 (Kd.R_F (Kd.R_mono (ok' := (fun k_ => ((fun k_ => (P0_ k_ ∨ w.heap.size ≤ k_) ∧ k_ ≠ gb156)) k_ ∧ some k_ ≠ (v167 : Value).ownBlock)) (Kd.R_apart' (HO187.out) (Kd.N_typed HO168.out) (by decide)) (fun k_ hk => ⟨⟨(.inr (hk.1.1.1)), hk.1.2⟩, hk.2⟩))))); (case aB => exact (by repeat (first | (with_reducible first | exact HB.out | apply below_alloc | apply pw_below_drewN | apply below_drew1 | refine below_set ?_ GE156.out) | exact HB.out))); (case aF => exact (fun k_ hk => ⟨(.inr (Nat.le_trans (below_size (by repeat (first | (with_reducible first | exact HB.out | apply below_alloc | apply pw_below_drewN | apply below_drew1 | refine below_set ?_ GE156.out) | exact HB.out))) hk)), Kd.freshB (g := gb156) (o := .cells #[.int .i64 a2_0, .int .u64 a2_1, .int .u64 a2_2] 24 (0, 0)) (by (with_reducible repeat (first | refine blk_drewN ?_ _ | refine blk_drew ?_ | refine blk_alloc ?_ _)); exact BK156.out) k_ hk⟩)); (case aO => exact (by (with_reducible repeat (first | apply Kd.N_alloc | apply Kd.N_drewN | apply Kd.N_drew)); exact Kd.N_mono HO168.out (fun _ hk => ⟨hk.1.1, hk.1.2⟩))); (case aS => exact (below_size (by repeat (first | (with_reducible first | exact HB.out | apply below_alloc | apply pw_below_drewN | apply below_drew1 | refine below_set ?_ GE156.out) | exact HB.out)))); (case aL => have := LMc28.out; omega); intro v189 w40 ho hb hg hat; rw [← Ny188.out] at ho; have n0_ := Aside0.mk (Kd.V_afterv (ok := (fun k_ => (P0_ k_ ∨ w.heap.size ≤ k_) ∧ some k_ ≠ (.slice Ao39 y185.length co39 : Value).ownBlock ∧ k_ ≠ gb156)) (by (with_reducible repeat (first | apply Kd.V_alloc | apply Kd.V_drewN | apply Kd.V_drew)); exact Kd.V_mono HO_0.out (fun _ hk => ⟨⟨hk.1.1.1, ⟨hk.2, hk.1.1.2⟩⟩, hk.1.2⟩)) hg hat); have n1_ := Aside0.mk (blk_grown (g := gb156) (o := .cells #[.int .i64 a2_0, .int .u64 a2_1, .int .u64 a2_2] 24 (0, 0)) (by (with_reducible repeat (first | refine blk_drewN ?_ _ | refine blk_drew ?_ | refine blk_alloc ?_ _)); exact BK156.out) hg (Kd.N_ne HO168.out BK156.out (by decide))); have n2_ := Aside0.mk (Kd.V_afterv (ok := (fun k_ => (P0_ k_ ∨ w.heap.size ≤ k_) ∧ some k_ ≠ (.slice Ao39 y185.length co39 : Value).ownBlock ∧ k_ ≠ gb156)) (by (with_reducible repeat (first | apply Kd.V_alloc | apply Kd.V_drewN | apply Kd.V_drew)); exact Kd.V_mono HL157_1.out (fun _ hk => ⟨⟨hk.1.1.1, ⟨hk.2, hk.1.1.2⟩⟩, hk.1.2⟩)) hg hat); have n3_ := Aside0.mk (Kd.V_afterv (ok := (fun k_ => (P0_ k_ ∨ w.heap.size ≤ k_) ∧ some k_ ≠ (.slice Ao39 y185.length co39 : Value).ownBlock ∧ k_ ≠ gb156)) (by (with_reducible repeat (first | apply Kd.V_alloc | apply Kd.V_drewN | apply Kd.V_drew)); exact Kd.V_mono HO165.out (fun _ hk => ⟨⟨hk.1.1.1, ⟨hk.2, hk.1.1.2⟩⟩, hk.1.2⟩)) hg hat); have n4_ := Aside0.mk (Kd.V_afterv (ok := (fun k_ => (P0_ k_ ∨ w.heap.size ≤ k_) ∧ some k_ ≠ (.slice Ao39 y185.length co39 : Value).ownBlock ∧ k_ ≠ gb156)) (by (with_reducible repeat (first | apply Kd.V_alloc | apply Kd.V_drewN | apply Kd.V_drew)); exact Kd.V_mono HL169_1.out (fun _ hk => ⟨⟨hk.1.1.1, ⟨hk.2, hk.1.1.2⟩⟩, hk.1.2⟩)) hg hat); have n5_ := Aside0.mk (hb); have n6_ := Aside0.mk (ho); clear HO_0; clear BK156; clear HL157_1; clear HO165; clear HL169_1; clear HB; clear HO168; clear HO187; have HO_0 := n0_; have BK156 := n1_; have HL157_1 := n2_; have HO165 := n3_; have HL169_1 := n4_; have HB := n5_; have HO190 := n6_; clear n0_ n1_ n2_ n3_ n4_ n5_ n6_; clear ho hb hg hat; have q41 : (x7_1 : Int) ≤ ((l0.length : Int) : Int) := of_decide_eq_true (by first | (with_reducible assumption) | assumption); obtain ⟨i041, hi041, _, hsz41, _⟩ := info_parts info79; have hroom41 : l0.length ≤ c0 := (Kd.V_reads' HO_0.out).2.1; have hC41 : Kd.F k79 _ _ (some ad157) l0.length l0 := (Kd.V_at (base := w.heap.size) HO_0.out).2.2; have q041 : (0 : Int) ≤ (x7_1 : Int) := of_decide_eq_true (by first | (with_reducible assumption) | assumption); have hcut41 := cut_from (P := Try.prog) 48 79 .i64 Try.underlying48 hi041 2 hsz41 (some ad157) l0.length c0 x7_1 q041 q41; have hr41 := Kd.F_cut (m := (x7_1 : Int).toNat) (c := c0) hC41 (by omega) hroom41; obtain ⟨A41, hA41⟩ : ∃ A1, A1 = (if c0 = (x7_1 : Int).toNat then (some ad157) else ((some ad157) : Option Addr).map (·.add ((x7_1 : Int).toNat * 2))) := ⟨_, rfl⟩; obtain ⟨c41, hc41⟩ : ∃ c1, c1 = c0 - (x7_1 : Int).toNat := ⟨_, rfl⟩; have hy41 : y191.length = l0.length - (x7_1 : Int).toNat := (by rw [Ny191.out, List.length_drop] <;> omega); rw [show (l0).drop (x7_1 : Int).toNat = y191 from Ny191.out.symm] at hr41; replace hr41 : Kd.F k79 _ _ A41 y191.length y191 := (by rw [hA41]; exact hr41); rw [← hy41, ← hA41, ← hc41] at hcut41; have HO195 := Aside0.mk (show Kd.V k79 79 _ w.heap.size _ (.slice A41 y191.length c41) y191 from Kd.V_mk (by rw [hy41, hc41]; exact Nat.sub_le_sub_right hroom41 _) hr41); have HC195 := Aside0.mk (show y191.length ≤ c41 from by rw [hy41, hc41]; exact Nat.sub_le_sub_right hroom41 _); clear hr41 hC41 hroom41 hi041 hsz41 hc41; have KY41 := Aside0.mk hy41; have KA41 := Aside0.mk hA41; clear hy41 hA41; replace q41 := eq_true q41) | ((with_reducible refine gate_builtin (b := .append) (xs := #[.tmp 70, .tmp 73]) rfl ?_); at_builtin; refine Kd.N_append_rows k79 (w0 := w) w.heap.size rfl (.tmp 70) (.tmp 73) 48 79 (.agg #[(.string ⟨#[]⟩), (.slice none 0 0)]) 40 rfl Try.underlying48 info79 rfl (by decide) (by omega) v189 y188 y191 _ _ _ (fun k_ => (P0_ k_ ∨ w.heap.size ≤ k_) ∧ k_ ≠ gb156) (fun k_ => ((fun k_ => (P0_ k_ ∨ w.heap.size ≤ k_) ∧ k_ ≠ gb156)) k_ ∧ some k_ ≠ (v189 : Value).ownBlock) rfl rfl ?aO ?aR (fun _ hk => hk) ?aF ?aB ?aS ?aL ?_; (case aR => exact (by skip; exact Kd.V_F (Kd.V_mono (ok' := (fun k_ => ((fun k_ => (P0_ k_ ∨ w.heap.size ≤ k_) ∧ k_ ≠ gb156)) k_ ∧ some k_ ≠ (v189 : Value).ownBlock)) (HO195.out) (fun k_ hk => ⟨⟨hk.1.1, hk.1.2.2⟩, hk.2⟩)))); (case aB => exact (by repeat (first | (with_reducible first | exact HB.out | apply below_alloc | apply pw_below_drewN | apply below_drew1 | refine below_set ?_ GE156.out) | exact HB.out))); (case aF => exact (fun k_ hk => ⟨(.inr (Nat.le_trans (below_size (by repeat (first | (with_reducible first | exact HB.out | apply below_alloc | apply pw_below_drewN | apply below_drew1 | refine below_set ?_ GE156.out) | exact HB.out))) hk)), Kd.freshB (g := gb156) (o := .cells #[.int .i64 a2_0, .int .u64 a2_1, .int .u64 a2_2] 24 (0, 0)) (by (with_reducible repeat (first | refine blk_drewN ?_ _ | refine blk_drew ?_ | refine blk_alloc ?_ _)); exact BK156.out) k_ hk⟩)); (case aO => exact (by (with_reducible repeat (first | apply Kd.N_alloc | apply Kd.N_drewN | apply Kd.N_drew)); exact HO190.out)); (case aS => exact (below_size (by repeat (first | (with_reducible first | exact HB.out | apply below_alloc | apply pw_below_drewN | apply below_drew1 | refine below_set ?_ GE156.out) | exact HB.out)))); (case aL => have := LMc31.out; omega); intro v197 w42 ho hb hg hat; rw [← Ny196.out] at ho; have n0_ := Aside0.mk (Kd.V_afterv (ok := (fun k_ => (P0_ k_ ∨ w.heap.size ≤ k_) ∧ k_ ≠ gb156)) (by (with_reducible repeat (first | apply Kd.V_alloc | apply Kd.V_drewN | apply Kd.V_drew)); exact Kd.V_mono HO_0.out (fun _ hk => ⟨⟨hk.1.1, hk.1.2.2⟩, hk.2⟩)) hg hat); have n1_ := Aside0.mk (blk_grown (g := gb156) (o := .cells #[.int .i64 a2_0, .int .u64 a2_1, .int .u64 a2_2] 24 (0, 0)) (by (with_reducible repeat (first | refine blk_drewN ?_ _ | refine blk_drew ?_ | refine blk_alloc ?_ _)); exact BK156.out) hg (Kd.N_ne HO190.out BK156.out (by decide))); have n2_ := Aside0.mk (Kd.V_afterv (ok := (fun k_ => (P0_ k_ ∨ w.heap.size ≤ k_) ∧ k_ ≠ gb156)) (by (with_reducible repeat (first | apply Kd.V_alloc | apply Kd.V_drewN | apply Kd.V_drew)); exact Kd.V_mono HL157_1.out (fun _ hk => ⟨⟨hk.1.1, hk.1.2.2⟩, hk.2⟩)) hg hat); have n3_ := Aside0.mk (Kd.V_afterv (ok := (fun k_ => (P0_ k_ ∨ w.heap.size ≤ k_) ∧ k_ ≠ gb156)) (by (with_reducible repeat (first | apply Kd.V_alloc | apply Kd.V_drewN | apply Kd.V_drew)); exact Kd.V_mono HO165.out (fun _ hk => ⟨⟨hk.1.1, hk.1.2.2⟩, hk.2⟩)) hg hat); have n4_ := Aside0.mk (Kd.V_afterv (ok := (fun k_ => (P0_ k_ ∨ w.heap.size ≤ k_) ∧ k_ ≠ gb156)) (by (with_reducible repeat (first | apply Kd.V_alloc | apply Kd.V_drewN | apply Kd.V_drew)); exact Kd.V_mono HL169_1.out (fun _ hk => ⟨⟨hk.1.1, hk.1.2.2⟩, hk.2⟩)) hg hat); have n5_ := Aside0.mk (Kd.V_afterv (ok := (fun k_ => (P0_ k_ ∨ w.heap.size ≤ k_) ∧ k_ ≠ gb156)) (by (with_reducible repeat (first | apply Kd.V_alloc | apply Kd.V_drewN | apply Kd.V_drew)); exact Kd.V_mono HO195.out (fun _ hk => ⟨⟨hk.1.1, hk.1.2.2⟩, hk.2⟩)) hg hat); have n6_ := Aside0.mk (hb); have n7_ := Aside0.mk (ho); clear HO_0; clear BK156; clear HL157_1; clear HO165; clear HL169_1; clear HO195; clear HB; clear HO190; have HO_0 := n0_; have BK156 := n1_; have HL157_1 := n2_; have HO165 := n3_; have HL169_1 := n4_; have HO195 := n5_; have HB := n6_; have HO198 := n7_; clear n0_ n1_ n2_ n3_ n4_ n5_ n6_ n7_; clear ho hb hg hat))
                      go_ret
                      exact ⟨_, by first | rfl | (simp [errW_none, errW_some] <;> rfl) | (simp [*, errW_none, errW_some] <;> rfl), by (with_reducible repeat (first | apply Kd.N_alloc | apply Kd.N_drewN | apply Kd.N_drew)); exact Kd.N_mono HO198.out (fun _ hk => hk.1), by repeat (first | (with_reducible first | exact HB.out | apply below_alloc | apply pw_below_drewN | apply below_drew1 | refine below_set ?_ GE156.out) | exact HB.out)⟩
                    · rw [if_neg c31] at H
                      exact absurd H (by simp)
                  · rw [if_neg c28] at H
                    exact absurd H (by simp)
              · rw [if_neg c10] at H
                exact absurd H (by simp)
            · rw [if_neg c9] at H
              exact absurd H (by simp)
        · rw [if_neg c6] at H
          exact absurd H (by simp)
      · rw [if_neg c5] at H
        have c5b0 : decide (x7_1 < (l0.length : Int)) = false := decide_eq_false c5
        clear c5
        obtain ⟨y199, hy199⟩ : ∃ y_ : List (S79), y_ = (([] : List (S79))) := ⟨_, rfl⟩
        replace H : (if 0 ≤ x7_1 then (if x7_1 ≤ (l0.length : Int) then ((some (l0.take (x7_1 : Int).toNat : List (S79))).bind fun y202 => (if y199.length + y202.length < 3518437208883 then ((some (y199 ++ y202 : List (S79))).bind fun y207 => (if y207.length < 3518437208883 then ((some (y207 ++ [(⟨a1, (([(⟨a2_0, a2_1, a2_2⟩ : S24)] : List (S24)))⟩ : S79)] : List (S79))).bind fun y213 => ((some (l0.drop (x7_1 : Int).toNat : List (S79))).bind fun y216 => (if y213.length + y216.length < 3518437208883 then (some (y213 ++ y216)) else (none)))) else (none))) else (none))) else (none)) else (none)) = some r := by first | (rw [hy199]; with_reducible exact H) | (have H2_ := (Option.bind_some _ _).symm.trans H; rw [hy199]; with_reducible exact H2_) | (have H2_ := (Option.bind_some _ _).symm.trans H; with_reducible exact H2_) | with_reducible exact H | (rw [hy199]; exact H) | exact H
        have Ny199 := Aside0.mk hy199
        clear hy199
        by_cases c43 : 0 ≤ x7_1
        · rw [if_pos c43] at H
          have c43b0 := eq_true c43
          have c43b1 : decide (0 ≤ x7_1) = true := decide_eq_true c43
          clear c43
          by_cases c44 : x7_1 ≤ (l0.length : Int)
          · rw [if_pos c44] at H
            have c44b0 := eq_true c44
            have c44b1 : decide (x7_1 ≤ (l0.length : Int)) = true := decide_eq_true c44
            clear c44
            obtain ⟨y202, hy202⟩ : ∃ y_ : List (S79), y_ = (l0.take (x7_1 : Int).toNat) := ⟨_, rfl⟩
            replace H : (if y199.length + y202.length < 3518437208883 then ((some (y199 ++ y202 : List (S79))).bind fun y207 => (if y207.length < 3518437208883 then ((some (y207 ++ [(⟨a1, (([(⟨a2_0, a2_1, a2_2⟩ : S24)] : List (S24)))⟩ : S79)] : List (S79))).bind fun y213 => ((some (l0.drop (x7_1 : Int).toNat : List (S79))).bind fun y216 => (if y213.length + y216.length < 3518437208883 then (some (y213 ++ y216)) else (none)))) else (none))) else (none)) = some r := by first | (rw [hy202]; with_reducible exact H) | (have H2_ := (Option.bind_some _ _).symm.trans H; rw [hy202]; with_reducible exact H2_) | (have H2_ := (Option.bind_some _ _).symm.trans H; with_reducible exact H2_) | with_reducible exact H | (rw [hy202]; exact H) | exact H
            have Ny202 := Aside0.mk hy202
            clear hy202
            by_cases c45 : y199.length + y202.length < 3518437208883
            · rw [if_pos c45] at H
              have LMc45 := Aside0.mk c45
              clear c45
              obtain ⟨y207, hy207⟩ : ∃ y_ : List (S79), y_ = (y199 ++ y202) := ⟨_, rfl⟩
              replace H : (if y207.length < 3518437208883 then ((some (y207 ++ [(⟨a1, (([(⟨a2_0, a2_1, a2_2⟩ : S24)] : List (S24)))⟩ : S79)] : List (S79))).bind fun y213 => ((some (l0.drop (x7_1 : Int).toNat : List (S79))).bind fun y216 => (if y213.length + y216.length < 3518437208883 then (some (y213 ++ y216)) else (none)))) else (none)) = some r := by first | (rw [hy207]; with_reducible exact H) | (have H2_ := (Option.bind_some _ _).symm.trans H; rw [hy207]; with_reducible exact H2_) | (have H2_ := (Option.bind_some _ _).symm.trans H; with_reducible exact H2_) | with_reducible exact H | (rw [hy207]; exact H) | exact H
              have Ny207 := Aside0.mk hy207
              clear hy207
              obtain ⟨y210, hy210⟩ : ∃ y_ : List (S24), y_ = (([(⟨a2_0, a2_1, a2_2⟩ : S24)] : List (S24))) := ⟨_, rfl⟩
              replace H : (if y207.length < 3518437208883 then ((some (y207 ++ [(⟨a1, y210⟩ : S79)] : List (S79))).bind fun y213 => ((some (l0.drop (x7_1 : Int).toNat : List (S79))).bind fun y216 => (if y213.length + y216.length < 3518437208883 then (some (y213 ++ y216)) else (none)))) else (none)) = some r := by first | (rw [hy210]; with_reducible exact H) | (have H2_ := (Option.bind_some _ _).symm.trans H; rw [hy210]; with_reducible exact H2_) | (have H2_ := (Option.bind_some _ _).symm.trans H; with_reducible exact H2_) | with_reducible exact H | (rw [hy210]; exact H) | exact H
              have Ny210 := Aside0.mk hy210
              clear hy210
              by_cases c46 : y207.length < 3518437208883
              · rw [if_pos c46] at H
                have LMc46 := Aside0.mk c46
                clear c46
                obtain ⟨y213, hy213⟩ : ∃ y_ : List (S79), y_ = (y207 ++ [(⟨a1, y210⟩ : S79)]) := ⟨_, rfl⟩
                replace H : ((some (l0.drop (x7_1 : Int).toNat : List (S79))).bind fun y216 => (if y213.length + y216.length < 3518437208883 then (some (y213 ++ y216)) else (none))) = some r := by first | (rw [hy213]; with_reducible exact H) | (have H2_ := (Option.bind_some _ _).symm.trans H; rw [hy213]; with_reducible exact H2_) | (have H2_ := (Option.bind_some _ _).symm.trans H; with_reducible exact H2_) | with_reducible exact H | (rw [hy213]; exact H) | exact H
                have Ny213 := Aside0.mk hy213
                clear hy213
                have c47b0 := eq_true (of_decide_eq_true (by first | (with_reducible assumption) | assumption) : 0 ≤ x7_1)
                have c48b0 := eq_true (of_decide_eq_true (by first | (with_reducible assumption) | assumption) : x7_1 ≤ (l0.length : Int))
                obtain ⟨y216, hy216⟩ : ∃ y_ : List (S79), y_ = (l0.drop (x7_1 : Int).toNat) := ⟨_, rfl⟩
                replace H : (if y213.length + y216.length < 3518437208883 then (some (y213 ++ y216)) else (none)) = some r := by first | (rw [hy216]; with_reducible exact H) | (have H2_ := (Option.bind_some _ _).symm.trans H; rw [hy216]; with_reducible exact H2_) | (have H2_ := (Option.bind_some _ _).symm.trans H; with_reducible exact H2_) | with_reducible exact H | (rw [hy216]; exact H) | exact H
                have Ny216 := Aside0.mk hy216
                clear hy216
                by_cases c49 : y213.length + y216.length < 3518437208883
                · rw [if_pos c49] at H
                  have LMc49 := Aside0.mk c49
                  clear c49
                  obtain ⟨y221, hy221⟩ : ∃ y_ : List (S79), y_ = (y213 ++ y216) := ⟨_, rfl⟩
                  replace H : (some y221) = some r := by first | (rw [hy221]; with_reducible exact H) | (have H2_ := (Option.bind_some _ _).symm.trans H; rw [hy221]; with_reducible exact H2_) | (have H2_ := (Option.bind_some _ _).symm.trans H; with_reducible exact H2_) | with_reducible exact H | (rw [hy221]; exact H) | exact H
                  have Ny221 := Aside0.mk hy221
                  clear hy221
                  obtain rfl := Option.some.inj H
                  go_wp2_with (first | ((with_reducible refine gate_dst (N := 25) rfl ?_); refine Kd.N_lit k79 _ 79 ?hg (N' := 25) ?hd (xs := ([] : List (S79))) (inner := []) (ok := (fun k_ => (P0_ k_ ∨ w.heap.size ≤ k_) ∧ k_ ≠ gb156)) (okp := (fun k_ => (P0_ k_ ∨ w.heap.size ≤ k_) ∧ k_ ≠ gb156)) ?hr ?hp (fun _ hk => hk) ((show ∀ k_, wr.heap.size ≤ k_ → (fun k_ => (P0_ k_ ∨ w.heap.size ≤ k_) ∧ k_ ≠ gb156) k_ from fun k_ hk => ⟨(.inr (Nat.le_trans (below_size (by repeat (first | (with_reducible first | exact HB.out | apply below_alloc | apply pw_below_drewN | apply below_drew1 | refine below_set ?_ GE156.out) | exact HB.out))) hk)), Kd.freshB (g := gb156) (o := .cells #[.int .i64 a2_0, .int .u64 a2_1, .int .u64 a2_2] 24 (0, 0)) (by (with_reducible repeat (first | refine blk_drewN ?_ _ | refine blk_drew ?_ | refine blk_alloc ?_ _)); exact BK156.out) k_ hk⟩) _ (Nat.le_refl _)) (Below.refl _ _) (Nat.le_refl _) (by simp) ?_; (case hd => rfl); (case hg => rfl); (case hr => first | (go_simp; done) | (go_simp; rfl)); (case hp => exact (Reps.none _ _)); intro v200 w50 ho51 hb hg_ hnew_; clear hg_ hnew_; (first | rw [← Ny199.out] at ho51 | (simp only [Int.reduceToNat] at ho51; rw [← Ny199.out] at ho51)); have n0_ := Aside0.mk (Kd.V_elder' (by (with_reducible repeat (first | apply Kd.V_alloc | apply Kd.V_drewN | apply Kd.V_drew)); exact HO_0.out) (Kd.N_base ho51) hb); have n1_ := Aside0.mk (Kd.N_lower ho51 (below_size (by repeat (first | (with_reducible first | exact HB.out | apply below_alloc | apply pw_below_drewN | apply below_drew1 | refine below_set ?_ GE156.out) | exact HB.out)))); have n2_ := Aside0.mk (blk_below (g := gb156) (o := .cells #[.int .i64 a2_0, .int .u64 a2_1, .int .u64 a2_2] 24 (0, 0)) (by (with_reducible repeat (first | refine blk_drewN ?_ _ | refine blk_drew ?_ | refine blk_alloc ?_ _)); exact BK156.out) hb); have n3_ := Aside0.mk (below_step (by repeat (first | (with_reducible first | exact HB.out | apply below_alloc | apply pw_below_drewN | apply below_drew1 | refine below_set ?_ GE156.out) | exact HB.out)) hb); clear HO_0; clear BK156; clear HB; have HO_0 := n0_; have HO201 := n1_; have BK156 := n2_; have HB := n3_; clear n0_ n1_ n2_ n3_; clear hb ho51; have q52 : (x7_1 : Int) ≤ ((l0.length : Int) : Int) := of_decide_eq_true (by first | (with_reducible assumption) | assumption); obtain ⟨i052, hi052, _, hsz52, _⟩ := info_parts info79; have hroom52 : l0.length ≤ c0 := (Kd.V_reads' HO_0.out).2.1; have hC52 : Kd.F k79 _ _ A0 l0.length l0 := (Kd.V_at (base := w.heap.size) HO_0.out).2.2; have hcut52 := cut_to (P := Try.prog) 48 79 .i64 Try.underlying48 hi052 A0 l0.length c0 x7_1 (of_decide_eq_true (by first | (with_reducible assumption) | assumption)) q52 hroom52; have hr52 := Kd.F_take (m := (x7_1 : Int).toNat) hC52 (by omega); have hy52 : y202.length = (x7_1 : Int).toNat := (by rw [Ny202.out, List.length_take]; omega); rw [← Ny202.out] at hr52; rw [← hy52] at hcut52; have HO206 := Aside0.mk (show Kd.V k79 79 _ w.heap.size _ (.slice A0 y202.length c0) y202 from Kd.V_mk (by omega) hr52); have HC206 := Aside0.mk (show y202.length ≤ c0 from by omega); clear hr52 hC52 hroom52 hi052 hsz52; have KY52 := Aside0.mk hy52; clear hy52; replace q52 := eq_true q52) | ((with_reducible refine gate_builtin (b := .append) (xs := #[.tmp 26, .tmp 29]) rfl ?_); at_builtin; refine Kd.N_append_rows k79 (w0 := w) w.heap.size rfl (.tmp 26) (.tmp 29) 48 79 (.agg #[(.string ⟨#[]⟩), (.slice none 0 0)]) 40 rfl Try.underlying48 info79 rfl (by decide) (by omega) v200 y199 y202 _ _ _ (fun k_ => (P0_ k_ ∨ w.heap.size ≤ k_) ∧ k_ ≠ gb156) (fun k_ => ((fun k_ => (P0_ k_ ∨ w.heap.size ≤ k_) ∧ k_ ≠ gb156)) k_ ∧ some k_ ≠ (v200 : Value).ownBlock) rfl rfl ?aO ?aR (fun _ hk => hk) ?aF ?aB ?aS ?aL ?_; (case aR => exact (by skip; exact Kd.V_F (Kd.V_mono (ok' := (fun k_ => ((fun k_ => (P0_ k_ ∨ w.heap.size ≤ k_) ∧ k_ ≠ gb156)) k_ ∧ some k_ ≠ (v200 : Value).ownBlock)) (HO206.out) (fun k_ hk => ⟨⟨hk.1.1, hk.1.2⟩, hk.2⟩)))); (case aB => exact (by repeat (first | (with_reducible first | exact HB.out | apply below_alloc | apply pw_below_drewN | apply below_drew1 | refine below_set ?_ GE156.out) | exact HB.out))); (case aF => exact (fun k_ hk => ⟨(.inr (Nat.le_trans (below_size (by repeat (first | (with_reducible first | exact HB.out | apply below_alloc | apply pw_below_drewN | apply below_drew1 | refine below_set ?_ GE156.out) | exact HB.out))) hk)), Kd.freshB (g := gb156) (o := .cells #[.int .i64 a2_0, .int .u64 a2_1, .int .u64 a2_2] 24 (0, 0)) (by (with_reducible repeat (first | refine blk_drewN ?_ _ | refine blk_drew ?_ | refine blk_alloc ?_ _)); exact BK156.out) k_ hk⟩)); (case aO => exact (by (with_reducible repeat (first | apply Kd.N_alloc | apply Kd.N_drewN | apply Kd.N_drew)); exact HO201.out)); (case aS => exact (below_size (by repeat (first | (with_reducible first | exact HB.out | apply below_alloc | apply pw_below_drewN | apply below_drew1 | refine below_set ?_ GE156.out) | exact HB.out)))); (case aL => have := LMc45.out; omega); intro v208 w53 ho hb hg hat; rw [← Ny207.out] at ho; have n0_ := Aside0.mk (Kd.V_afterv (ok := (fun k_ => (P0_ k_ ∨ w.heap.size ≤ k_) ∧ k_ ≠ gb156)) (by (with_reducible repeat (first | apply Kd.V_alloc | apply Kd.V_drewN | apply Kd.V_drew)); exact HO_0.out) hg hat); have n1_ := Aside0.mk (blk_grown (g := gb156) (o := .cells #[.int .i64 a2_0, .int .u64 a2_1, .int .u64 a2_2] 24 (0, 0)) (by (with_reducible repeat (first | refine blk_drewN ?_ _ | refine blk_drew ?_ | refine blk_alloc ?_ _)); exact BK156.out) hg (Kd.N_ne HO201.out BK156.out (by decide))); have n2_ := Aside0.mk (Kd.V_afterv (ok := (fun k_ => (P0_ k_ ∨ w.heap.size ≤ k_) ∧ k_ ≠ gb156)) (by (with_reducible repeat (first | apply Kd.V_alloc | apply Kd.V_drewN | apply Kd.V_drew)); exact HO206.out) hg hat); have n3_ := Aside0.mk (hb); have n4_ := Aside0.mk (ho); clear HO_0; clear BK156; clear HO206; clear HB; clear HO201; have HO_0 := n0_; have BK156 := n1_; have HO206 := n2_; have HB := n3_; have HO209 := n4_; clear n0_ n1_ n2_ n3_ n4_; clear ho hb hg hat; have hcz54_0 : w53.cell? ⟨gb156, 0, none⟩ = some (.int .i64 a2_0) := (blk_cell BK156.out 0).trans rfl; have hcz54_1 : w53.cell? ⟨gb156, 1, none⟩ = some (.int .u64 a2_1) := (blk_cell BK156.out 1).trans rfl; have hcz54_2 : w53.cell? ⟨gb156, 2, none⟩ = some (.int .u64 a2_2) := (blk_cell BK156.out 2).trans rfl; have hfz54_0 := blk_frozen BK156.out 0; have hfz54_1 := blk_frozen BK156.out 1; have hfz54_2 := blk_frozen BK156.out 2) | ((with_reducible refine gate_dst (N := 63) rfl ?_); refine Kd.R_lit k24 _ 24 ?hg (N := 63) ?hd (xs := ([(⟨a2_0, a2_1, a2_2⟩ : S24)] : List (S24))) (inner := [.int .i64 a2_0, .int .u64 a2_1, .int .u64 a2_2]) (ok := fun _ => True) (okp := fun _ => True) ?hr ?hp (fun _ hk => hk) trivial (Below.refl _ _) (Nat.le_refl _) (by simp) ?_; (case hd => rfl); (case hg => rfl); (case hr => first | (go_simp; done) | (go_simp; rfl)); (case hp => exact (Reps.c3 (show Kd.M k24 _ _ _ (⟨a2_0, a2_1, a2_2⟩ : S24) [.int .i64 a2_0, .int .u64 a2_1, .int .u64 a2_2] from (k24_mkM _ _ _ (⟨a2_0, a2_1, a2_2⟩ : S24) )) (Reps.none _ _))); intro v211 w55 ho56 hb hg_ hnew_; clear hg_ hnew_; (first | rw [← Ny210.out] at ho56 | (simp only [Int.reduceToNat] at ho56; rw [← Ny210.out] at ho56)); have n0_ := Aside0.mk (Kd.V_elder' (by (with_reducible repeat (first | apply Kd.V_alloc | apply Kd.V_drewN | apply Kd.V_drew)); exact HO_0.out) (Kd.R_base ho56) hb); have n1_ := Aside0.mk (Kd.V_elder' (by (with_reducible repeat (first | apply Kd.V_alloc | apply Kd.V_drewN | apply Kd.V_drew)); exact HO206.out) (Kd.R_base ho56) hb); have n2_ := Aside0.mk (Kd.N_elder' (by (with_reducible repeat (first | apply Kd.N_alloc | apply Kd.N_drewN | apply Kd.N_drew)); exact HO209.out) (Kd.R_base ho56) hb); have n3_ := Aside0.mk (Kd.R_lower (Kd.R_newB (Kd.R_newM (M := fun k_ => (w.heap.size ≤ k_)) ho56 (below_size (by repeat (first | (with_reducible first | exact HB.out | apply below_alloc | apply pw_below_drewN | apply below_drew1 | refine below_set ?_ GE156.out) | exact HB.out))) (fun k_ h_ => h_)) (g := gb156) (o := .cells #[.int .i64 a2_0, .int .u64 a2_1, .int .u64 a2_2] 24 (0, 0)) (by (with_reducible repeat (first | refine blk_drewN ?_ _ | refine blk_drew ?_ | refine blk_alloc ?_ _)); exact BK156.out)) (below_size (by repeat (first | (with_reducible first | exact HB.out | apply below_alloc | apply pw_below_drewN | apply below_drew1 | refine below_set ?_ GE156.out) | exact HB.out)))); have n4_ := Aside0.mk (blk_below (g := gb156) (o := .cells #[.int .i64 a2_0, .int .u64 a2_1, .int .u64 a2_2] 24 (0, 0)) (by (with_reducible repeat (first | refine blk_drewN ?_ _ | refine blk_drew ?_ | refine blk_alloc ?_ _)); exact BK156.out) hb); have n5_ := Aside0.mk (below_step (by repeat (first | (with_reducible first | exact HB.out | apply below_alloc | apply pw_below_drewN | apply below_drew1 | refine below_set ?_ GE156.out) | exact HB.out)) hb); clear HO_0; clear HO206; clear HO209; clear BK156; clear HB; have HO_0 := n0_; have HO206 := n1_; have HO209 := n2_; have HO212 := n3_; have BK156 := n4_; have HB := n5_; clear n0_ n1_ n2_ n3_ n4_ n5_; clear hb ho56; obtain ⟨Ao57, co57, eo57⟩ := Kd.R_slice HO212.out; subst eo57) | ((with_reducible refine gate_builtin (b := .append) (xs := #[.tmp 64, .tmp 68]) rfl ?_); at_builtin; refine Kd.N_append k79 (w0 := w) w.heap.size rfl (.tmp 64) (.tmp 68) 48 79 (.agg #[(.string ⟨#[]⟩), (.slice none 0 0)]) 40 rfl Try.underlying48 info79 rfl (by decide) (by omega) v208 y207 (⟨a1, y210⟩ : S79) [.string a1, .slice Ao57 y210.length co57] (fun k_ => (P0_ k_ ∨ w.heap.size ≤ k_) ∧ k_ ≠ gb156) (fun k_ => ((fun k_ => (P0_ k_ ∨ w.heap.size ≤ k_) ∧ k_ ≠ gb156)) k_ ∧ some k_ ≠ (v208 : Value).ownBlock) rfl rfl ?aP (fun _ hk => hk) ?aF ?aO ?aB ?aS ?aL ?_; (case aP => exact (k79_mkF _ _ (⟨a1, y210⟩ : S79) (Kd.R_reads' (Kd.R_mono (ok' := (fun k_ => ((fun k_ => (P0_ k_ ∨ w.heap.size ≤ k_) ∧ k_ ≠ gb156)) k_ ∧ some k_ ≠ (v208 : Value).ownBlock)) (Kd.R_apart' (HO212.out) (Kd.N_typed HO209.out) (by decide)) (fun k_ hk => ⟨⟨(.inr (hk.1.1.1)), hk.1.2⟩, hk.2⟩))).2.1 (Kd.R_F (Kd.R_mono (ok' := (fun k_ => ((fun k_ => (P0_ k_ ∨ w.heap.size ≤ k_) ∧ k_ ≠ gb156)) k_ ∧ some k_ ≠ (v208 : Value).ownBlock)) (Kd.R_apart' (HO212.out) (Kd.N_typed HO209.out) (by decide)) (fun k_ hk => ⟨⟨(.inr (hk.1.1.1)), hk.1.2⟩, hk.2⟩))))); (case aB => exact (by repeat (first | (with_reducible first | exact HB.out | apply below_alloc | apply pw_below_drewN | apply below_drew1 | refine below_set ?_ GE156.out) | exact HB.out))); (case aF => exact (fun k_ hk => ⟨(.inr (Nat.le_trans (below_size (by repeat (first | (with_reducible first | exact HB.out | apply below_alloc | apply pw_below_drewN | apply below_drew1 | refine below_set ?_ GE156.out) | exact HB.out))) hk)), Kd.freshB (g := gb156) (o := .cells #[.int .i64 a2_0, .int .u64 a2_1, .int .u64 a2_2] 24 (0, 0)) (by (with_reducible repeat (first | refine blk_drewN ?_ _ | refine blk_drew ?_ | refine blk_alloc ?_ _)); exact BK156.out) k_ hk⟩)); (case aO => exact (by (with_reducible repeat (first | apply Kd.N_alloc | apply Kd.N_drewN | apply Kd.N_drew)); exact Kd.N_mono HO209.out (fun _ hk => ⟨hk.1.1, hk.1.2⟩))); (case aS => exact (below_size (by repeat (first | (with_reducible first | exact HB.out | apply below_alloc | apply pw_below_drewN | apply below_drew1 | refine below_set ?_ GE156.out) | exact HB.out)))); (case aL => have := LMc46.out; omega); intro v214 w58 ho hb hg hat; rw [← Ny213.out] at ho; have n0_ := Aside0.mk (Kd.V_afterv (ok := (fun k_ => (P0_ k_ ∨ w.heap.size ≤ k_) ∧ some k_ ≠ (.slice Ao57 y210.length co57 : Value).ownBlock ∧ k_ ≠ gb156)) (by (with_reducible repeat (first | apply Kd.V_alloc | apply Kd.V_drewN | apply Kd.V_drew)); exact Kd.V_mono HO_0.out (fun _ hk => ⟨⟨hk.1.1.1, ⟨hk.2, hk.1.1.2⟩⟩, hk.1.2⟩)) hg hat); have n1_ := Aside0.mk (blk_grown (g := gb156) (o := .cells #[.int .i64 a2_0, .int .u64 a2_1, .int .u64 a2_2] 24 (0, 0)) (by (with_reducible repeat (first | refine blk_drewN ?_ _ | refine blk_drew ?_ | refine blk_alloc ?_ _)); exact BK156.out) hg (Kd.N_ne HO209.out BK156.out (by decide))); have n2_ := Aside0.mk (Kd.V_afterv (ok := (fun k_ => (P0_ k_ ∨ w.heap.size ≤ k_) ∧ some k_ ≠ (.slice Ao57 y210.length co57 : Value).ownBlock ∧ k_ ≠ gb156)) (by (with_reducible repeat (first | apply Kd.V_alloc | apply Kd.V_drewN | apply Kd.V_drew)); exact Kd.V_mono HO206.out (fun _ hk => ⟨⟨hk.1.1.1, ⟨hk.2, hk.1.1.2⟩⟩, hk.1.2⟩)) hg hat); have n3_ := Aside0.mk (hb); have n4_ := Aside0.mk (ho); clear HO_0; clear BK156; clear HO206; clear HB; clear HO209; clear HO212; have HO_0 := n0_; have BK156 := n1_; have HO206 := n2_; have HB := n3_; have HO215 := n4_; clear n0_ n1_ n2_ n3_ n4_; clear ho hb hg hat; have q59 : (x7_1 : Int) ≤ ((l0.length : Int) : Int) := of_decide_eq_true (by first | (with_reducible assumption) | assumption); obtain ⟨i059, hi059, _, hsz59, _⟩ := info_parts info79; have hroom59 : l0.length ≤ c0 := (Kd.V_reads' HO_0.out).2.1; have hC59 : Kd.F k79 _ _ A0 l0.length l0 := (Kd.V_at (base := w.heap.size) HO_0.out).2.2; have q059 : (0 : Int) ≤ (x7_1 : Int) := of_decide_eq_true (by first | (with_reducible assumption) | assumption); have hcut59 := cut_from (P := Try.prog) 48 79 .i64 Try.underlying48 hi059 2 hsz59 A0 l0.length c0 x7_1 q059 q59; have hr59 := Kd.F_cut (m := (x7_1 : Int).toNat) (c := c0) hC59 (by omega) hroom59; obtain ⟨A59, hA59⟩ : ∃ A1, A1 = (if c0 = (x7_1 : Int).toNat then A0 else (A0 : Option Addr).map (·.add ((x7_1 : Int).toNat * 2))) := ⟨_, rfl⟩; obtain ⟨c59, hc59⟩ : ∃ c1, c1 = c0 - (x7_1 : Int).toNat := ⟨_, rfl⟩; have hy59 : y216.length = l0.length - (x7_1 : Int).toNat := (by rw [Ny216.out, List.length_drop] <;> omega); rw [show (l0).drop (x7_1 : Int).toNat = y216 from Ny216.out.symm] at hr59; replace hr59 : Kd.F k79 _ _ A59 y216.length y216 := (by rw [hA59]; exact hr59); rw [← hy59, ← hA59, ← hc59] at hcut59; have HO220 := Aside0.mk (show Kd.V k79 79 _ w.heap.size _ (.slice A59 y216.length c59) y216 from Kd.V_mk (by rw [hy59, hc59]; exact Nat.sub_le_sub_right hroom59 _) hr59); have HC220 := Aside0.mk (show y216.length ≤ c59 from by rw [hy59, hc59]; exact Nat.sub_le_sub_right hroom59 _); clear hr59 hC59 hroom59 hi059 hsz59 hc59; have KY59 := Aside0.mk hy59; have KA59 := Aside0.mk hA59; clear hy59 hA59; replace q59 := eq_true q59) | ((with_reducible refine gate_builtin (b := .append) (xs := #[.tmp 70, .tmp 73]) rfl ?_); at_builtin; refine Kd.N_append_rows k79 (w0 := w) w.heap.size rfl (.tmp 70) (.tmp 73) 48 79 (.agg #[(.string ⟨#[]⟩), (.slice none 0 0)]) 40 rfl Try.underlying48 info79 rfl (by decide) (by omega) v214 y213 y216 _ _ _ (fun k_ => (P0_ k_ ∨ w.heap.size ≤ k_) ∧ k_ ≠ gb156) (fun k_ => ((fun k_ => (P0_ k_ ∨ w.heap.size ≤ k_) ∧ k_ ≠ gb156)) k_ ∧ some k_ ≠ (v214 : Value).ownBlock) rfl rfl ?aO ?aR (fun _ hk => hk) ?aF ?aB ?aS ?aL ?_; (case aR => exact (by skip; exact Kd.V_F (Kd.V_mono (ok' := (fun k_ => ((fun k_ => (P0_ k_ ∨ w.heap.size ≤ k_) ∧ k_ ≠ gb156)) k_ ∧ some k_ ≠ (v214 : Value).ownBlock)) (HO220.out) (fun k_ hk => ⟨⟨hk.1.1, hk.1.2.2⟩, hk.2⟩)))); (case aB => exact (by repeat (first | (with_reducible first | exact HB.out | apply below_alloc | apply pw_below_drewN | apply below_drew1 | refine below_set ?_ GE156.out) | exact HB.out))); (case aF => exact (fun k_ hk => ⟨(.inr (Nat.le_trans (below_size (by repeat (first | (with_reducible first | exact HB.out | apply below_alloc | apply pw_below_drewN | apply below_drew1 | refine below_set ?_ GE156.out) | exact HB.out))) hk)), Kd.freshB (g := gb156) (o := .cells #[.int .i64 a2_0, .int .u64 a2_1, .int .u64 a2_2] 24 (0, 0)) (by (with_reducible repeat (first | refine blk_drewN ?_ _ | refine blk_drew ?_ | refine blk_alloc ?_ _)); exact BK156.out) k_ hk⟩)); (case aO => exact (by (with_reducible repeat (first | apply Kd.N_alloc | apply Kd.N_drewN | apply Kd.N_drew)); exact HO215.out)); (case aS => exact (below_size (by repeat (first | (with_reducible first | exact HB.out | apply below_alloc | apply pw_below_drewN | apply below_drew1 | refine below_set ?_ GE156.out) | exact HB.out)))); (case aL => have := LMc49.out; omega); intro v222 w60 ho hb hg hat; rw [← Ny221.out] at ho; have n0_ := Aside0.mk (Kd.V_afterv (ok := (fun k_ => (P0_ k_ ∨ w.heap.size ≤ k_) ∧ k_ ≠ gb156)) (by (with_reducible repeat (first | apply Kd.V_alloc | apply Kd.V_drewN | apply Kd.V_drew)); exact Kd.V_mono HO_0.out (fun _ hk => ⟨⟨hk.1.1, hk.1.2.2⟩, hk.2⟩)) hg hat); have n1_ := Aside0.mk (blk_grown (g := gb156) (o := .cells #[.int .i64 a2_0, .int .u64 a2_1, .int .u64 a2_2] 24 (0, 0)) (by (with_reducible repeat (first | refine blk_drewN ?_ _ | refine blk_drew ?_ | refine blk_alloc ?_ _)); exact BK156.out) hg (Kd.N_ne HO215.out BK156.out (by decide))); have n2_ := Aside0.mk (Kd.V_afterv (ok := (fun k_ => (P0_ k_ ∨ w.heap.size ≤ k_) ∧ k_ ≠ gb156)) (by (with_reducible repeat (first | apply Kd.V_alloc | apply Kd.V_drewN | apply Kd.V_drew)); exact Kd.V_mono HO206.out (fun _ hk => ⟨⟨hk.1.1, hk.1.2.2⟩, hk.2⟩)) hg hat); have n3_ := Aside0.mk (Kd.V_afterv (ok := (fun k_ => (P0_ k_ ∨ w.heap.size ≤ k_) ∧ k_ ≠ gb156)) (by (with_reducible repeat (first | apply Kd.V_alloc | apply Kd.V_drewN | apply Kd.V_drew)); exact Kd.V_mono HO220.out (fun _ hk => ⟨⟨hk.1.1, hk.1.2.2⟩, hk.2⟩)) hg hat); have n4_ := Aside0.mk (hb); have n5_ := Aside0.mk (ho); clear HO_0; clear BK156; clear HO206; clear HO220; clear HB; clear HO215; have HO_0 := n0_; have BK156 := n1_; have HO206 := n2_; have HO220 := n3_; have HB := n4_; have HO223 := n5_; clear n0_ n1_ n2_ n3_ n4_ n5_; clear ho hb hg hat))
                  go_ret
                  exact ⟨_, by first | rfl | (simp [errW_none, errW_some] <;> rfl) | (simp [*, errW_none, errW_some] <;> rfl), by (with_reducible repeat (first | apply Kd.N_alloc | apply Kd.N_drewN | apply Kd.N_drew)); exact Kd.N_mono HO223.out (fun _ hk => hk.1), by repeat (first | (with_reducible first | exact HB.out | apply below_alloc | apply pw_below_drewN | apply below_drew1 | refine below_set ?_ GE156.out) | exact HB.out)⟩
                · rw [if_neg c49] at H
                  exact absurd H (by simp)
              · rw [if_neg c46] at H
                exact absurd H (by simp)
            · rw [if_neg c45] at H
              exact absurd H (by simp)
          · rw [if_neg c44] at H
            exact absurd H (by simp)
        · rw [if_neg c43] at H
          exact absurd H (by simp)

end Go.Proofs.Ytmocpglnoehknaa.QS
