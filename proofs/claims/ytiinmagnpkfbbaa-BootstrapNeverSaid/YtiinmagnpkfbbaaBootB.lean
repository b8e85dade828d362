/- The boots: Left, Done. -/
import Derived.Test.YtiinmagnpkfbbaaBootA
namespace Go.Proofs.Ytiinmagnpkfbbaa
set_option linter.unusedVariables false
set_option linter.unusedSimpArgs false
open Go.RowKit Go.Proofs.YtiinmagnpkfbbaaW.PrintWords Go.Proofs.YtiinmagnpkfbbaaW.PrintLast Go.Proofs.YtiinmagnpkfbbaaW.PrintMore Go.Proofs.Ytiinmagnpkfbbaa.QT Go.Sort
namespace Bt
def enough (b : Bo) : Bool := gave b.gv b.own.f2 || (b.oth.length == 2 && gave b.gv (b.oth.getD 0 0) && gave b.gv (b.oth.getD 1 0))
def leftOf (b : Bo) : List R := if b.own.f1 = 1 ∧ enough b = true then [] else b.left
/-- What its walk needs of a boot's numbers. -/
structure Wf (b : Bo) : Prop where
  src : (Lit.int .i64 b.own.f2).wf = true
  oth : ∀ x ∈ b.oth, (Lit.int .i64 x).wf = true
  l1 : b.oth.length ≤ 1000000
  l2 : b.left.length ≤ 1000000
theorem add_z (a : Addr) : a.add (0 : Int).toNat = a := by obtain ⟨b, o, p⟩ := a; cases p <;> simp [Addr.add]
theorem R_cap {α : Type} {d : Kd α} {e B : Nat} {w : World} {ok : Nat → Prop} {A : Option Addr} {n c : Nat} {xs : List α} (h : d.R e w B ok (.slice A n c) xs) : n ≤ c := (Kd.R_reads' h).2.1
set_option maxHeartbeats 2000000 in
set_option maxRecDepth 100000 in
theorem left_calls (w : World) (B g gm gp : Nat) (vO vL : Value) (b : Bo) (h : Is w B g gm gp vO vL b) (hw : Wf b) :
    Calls Try.prog 10 #[.pointer (some ⟨g, 0, none⟩)] w fun e w' => ∃ v : Value, e = .returned v ∧ Kd.R k29 29 w' w.heap.size (fun _ => True) v (leftOf b) ∧ Below w.heap.size w w' := by
  obtain ⟨AO, cO, rfl⟩ := Kd.R_slice h.oth
  obtain ⟨AL, cL, rfl⟩ := Kd.R_slice h.left
  have HI := Lib.hid h
  have HW := Lib.hid hw
  have hl1 := hw.l1
  have hl2 := hw.l2
  clear h hw
  cases hA : gave b.gv b.own.f2 with
  | true =>
    have HE := Lib.hid (show enough b = true by unfold enough; rw [hA]; rfl)
    have c0_1 : w.cell? ⟨g, 1, none⟩ = some (.int .i64 b.own.f1) := (blk_cell HI.out.blk 1).trans rfl
    have c0_2 : w.cell? ⟨g, 2, none⟩ = some (.int .i64 b.own.f2) := (blk_cell HI.out.blk 2).trans rfl
    have c0_3 : w.cell? ⟨g, 3, none⟩ = some (.slice AO b.oth.length cO) := (blk_cell HI.out.blk 3).trans rfl
    have c0_7 : w.cell? ⟨g, 7, none⟩ = some (.slice AL b.left.length cL) := (blk_cell HI.out.blk 7).trans rfl
    have hgc := gave_calls w g gm b.gv ((blk_cell HI.out.blk 4).trans rfl) HI.out.gv b.own.f2 HW.out.src
    rw [hA] at hgc
    have HGC := Lib.hid hgc
    clear hgc
    go_enter Try.func10, Try.ntmps10
    go_wp2_with fail
    with_reducible refine HGC.out.mono ?_
    rintro e w1 ⟨rfl, hb1⟩
    have HI1 := Lib.hid (HI.out.below hb1)
    have HB1 := Lib.hid hb1
    clear hb1 HGC c0_1 c0_2 c0_3 c0_7
    have c1_1 : w1.cell? ⟨g, 1, none⟩ = some (.int .i64 b.own.f1) := (blk_cell HI1.out.blk 1).trans rfl
    have c1_2 : w1.cell? ⟨g, 2, none⟩ = some (.int .i64 b.own.f2) := (blk_cell HI1.out.blk 2).trans rfl
    have c1_3 : w1.cell? ⟨g, 3, none⟩ = some (.slice AO b.oth.length cO) := (blk_cell HI1.out.blk 3).trans rfl
    have c1_7 : w1.cell? ⟨g, 7, none⟩ = some (.slice AL b.left.length cL) := (blk_cell HI1.out.blk 7).trans rfl
    go_wp2_with fail
    with_reducible refine (init_calls _ g b.own.f1 c1_1).mono ?_
    rintro e w9 ⟨rfl, rfl⟩
    by_cases hst : b.own.f1 = 1
    · have d1 : (b.own.f1 == 1) = true := beq_iff_eq.2 hst
      have HL := Lib.hid (show leftOf b = [] by unfold leftOf; rw [if_pos ⟨hst, HE.out⟩])
      clear hst
      go_wp2
      go_ret
      exact ⟨_, rfl, by rw [HL.out]; exact Kd.R_nil _ _ _ _ _, HB1.out⟩
    · have d1 : (b.own.f1 == 1) = false := beq_eq_false_iff_ne.2 hst
      have HL := Lib.hid (show leftOf b = b.left by unfold leftOf; rw [if_neg (fun h => hst h.1)])
      clear hst
      have HCL := Lib.hid (Rg.clone_Range.calls AL cL b.left b.left w1 (Kd.R_reads' HI1.out.left).2.2 (R_cap HI1.out.left) (by unfold Rg.clone_Range.f; rw [if_pos (by omega)]))
      go_wp2_with fail
      with_reducible refine HCL.out.mono ?_
      rintro e w10 ⟨v10, rfl, hR, hb⟩
      have HR := Lib.hid hR
      have HB10 := Lib.hid (below_then HB1.out HB1.out.size hb)
      have HZ := Lib.hid HB1.out.size
      clear hR hb
      go_wp2
      go_ret
      exact ⟨_, rfl, by rw [HL.out]; exact Kd.R_lower HR.out HZ.out, HB10.out⟩
  | false =>
    by_cases hlen : b.oth.length = 2
    case neg =>
      have e2 : ((b.oth.length : Int) == 2) = false := beq_eq_false_iff_ne.2 (by omega)
      have HE := Lib.hid (show enough b = false by unfold enough; rw [hA, beq_eq_false_iff_ne.2 hlen]; rfl)
      have HLN := Lib.hid hlen
      clear hlen
      have c0_1 : w.cell? ⟨g, 1, none⟩ = some (.int .i64 b.own.f1) := (blk_cell HI.out.blk 1).trans rfl
      have c0_2 : w.cell? ⟨g, 2, none⟩ = some (.int .i64 b.own.f2) := (blk_cell HI.out.blk 2).trans rfl
      have c0_3 : w.cell? ⟨g, 3, none⟩ = some (.slice AO b.oth.length cO) := (blk_cell HI.out.blk 3).trans rfl
      have c0_7 : w.cell? ⟨g, 7, none⟩ = some (.slice AL b.left.length cL) := (blk_cell HI.out.blk 7).trans rfl
      have hgc := gave_calls w g gm b.gv ((blk_cell HI.out.blk 4).trans rfl) HI.out.gv b.own.f2 HW.out.src
      rw [hA] at hgc
      have HGC := Lib.hid hgc
      clear hgc
      go_enter Try.func10, Try.ntmps10
      go_wp2_with fail
      with_reducible refine HGC.out.mono ?_
      rintro e w1 ⟨rfl, hb1⟩
      have HI1 := Lib.hid (HI.out.below hb1)
      have HB1 := Lib.hid hb1
      clear hb1 HGC c0_1 c0_2 c0_3 c0_7
      have c1_1 : w1.cell? ⟨g, 1, none⟩ = some (.int .i64 b.own.f1) := (blk_cell HI1.out.blk 1).trans rfl
      have c1_2 : w1.cell? ⟨g, 2, none⟩ = some (.int .i64 b.own.f2) := (blk_cell HI1.out.blk 2).trans rfl
      have c1_3 : w1.cell? ⟨g, 3, none⟩ = some (.slice AO b.oth.length cO) := (blk_cell HI1.out.blk 3).trans rfl
      have c1_7 : w1.cell? ⟨g, 7, none⟩ = some (.slice AL b.left.length cL) := (blk_cell HI1.out.blk 7).trans rfl
      go_wp2_with fail
      with_reducible refine (init_calls _ g b.own.f1 c1_1).mono ?_
      rintro e w9 ⟨rfl, rfl⟩
      have HL := Lib.hid (show leftOf b = b.left by unfold leftOf; rw [if_neg (fun h => by rw [HE.out] at h; cases h.2)])
      cases d1 : (b.own.f1 == 1)
      all_goals
        have HCL := Lib.hid (Rg.clone_Range.calls AL cL b.left b.left w1 (Kd.R_reads' HI1.out.left).2.2 (R_cap HI1.out.left) (by unfold Rg.clone_Range.f; rw [if_pos (by omega)]))
        go_wp2_with fail
        with_reducible refine HCL.out.mono ?_
        rintro e w10 ⟨v10, rfl, hR, hb⟩
        have HR := Lib.hid hR
        have HB10 := Lib.hid (below_then HB1.out HB1.out.size hb)
        have HZ := Lib.hid HB1.out.size
        clear hR hb
        go_wp2
        go_ret
        exact ⟨_, rfl, by rw [HL.out]; exact Kd.R_lower HR.out HZ.out, HB10.out⟩
    case pos =>
      have e2 : ((b.oth.length : Int) == 2) = true := beq_iff_eq.2 (by omega)
      obtain ⟨x, hx0⟩ : ∃ x, rd b.oth 0 = x := ⟨_, rfl⟩
      obtain ⟨y, hy0⟩ : ∃ y, rd b.oth 1 = y := ⟨_, rfl⟩
      have hx1 : b.oth.getD 0 0 = x := hx0
      have hy1 : b.oth.getD 1 0 = y := hy0
      have hxm : x ∈ b.oth := by rw [← hx1, List.getD_eq_getElem?_getD, List.getElem?_eq_getElem (show 0 < b.oth.length by omega)]; exact List.getElem_mem _
      have hym : y ∈ b.oth := by rw [← hy1, List.getD_eq_getElem?_getD, List.getElem?_eq_getElem (show 1 < b.oth.length by omega)]; exact List.getElem_mem _
      have HWX := Lib.hid (HW.out.oth x hxm)
      have HWY := Lib.hid (HW.out.oth y hym)
      clear hxm hym
      obtain ⟨ga, rfl⟩ : ∃ ga, AO = some ⟨ga, 0, none⟩ := by
        obtain ⟨inner, ho⟩ := Kd.R_own HI.out.oth
        rcases ho with ⟨_, ⟨e, h0⟩ | ⟨gb, cap, cur, e, _⟩⟩
        · omega
        · injection e with e _ _; exact ⟨gb, e⟩
      cases hX : gave b.gv x with
      | false =>
        have HE := Lib.hid (show enough b = false by unfold enough; rw [hA, hx1, hX, Bool.and_false]; rfl)
        have HLN := Lib.hid hlen
        have c0_1 : w.cell? ⟨g, 1, none⟩ = some (.int .i64 b.own.f1) := (blk_cell HI.out.blk 1).trans rfl
        have c0_2 : w.cell? ⟨g, 2, none⟩ = some (.int .i64 b.own.f2) := (blk_cell HI.out.blk 2).trans rfl
        have c0_3 : w.cell? ⟨g, 3, none⟩ = some (.slice (some ⟨ga, 0, none⟩) b.oth.length cO) := (blk_cell HI.out.blk 3).trans rfl
        have c0_7 : w.cell? ⟨g, 7, none⟩ = some (.slice AL b.left.length cL) := (blk_cell HI.out.blk 7).trans rfl
        have hgc := gave_calls w g gm b.gv ((blk_cell HI.out.blk 4).trans rfl) HI.out.gv b.own.f2 HW.out.src
        rw [hA] at hgc
        have HGC := Lib.hid hgc
        clear hgc
        go_enter Try.func10, Try.ntmps10
        go_wp2_with fail
        with_reducible refine HGC.out.mono ?_
        rintro e w1 ⟨rfl, hb1⟩
        have HI1 := Lib.hid (HI.out.below hb1)
        have HB1 := Lib.hid hb1
        clear hb1 HGC c0_1 c0_2 c0_3 c0_7
        have c1_1 : w1.cell? ⟨g, 1, none⟩ = some (.int .i64 b.own.f1) := (blk_cell HI1.out.blk 1).trans rfl
        have c1_2 : w1.cell? ⟨g, 2, none⟩ = some (.int .i64 b.own.f2) := (blk_cell HI1.out.blk 2).trans rfl
        have c1_3 : w1.cell? ⟨g, 3, none⟩ = some (.slice (some ⟨ga, 0, none⟩) b.oth.length cO) := (blk_cell HI1.out.blk 3).trans rfl
        have c1_7 : w1.cell? ⟨g, 7, none⟩ = some (.slice AL b.left.length cL) := (blk_cell HI1.out.blk 7).trans rfl
        have c1_x' : w1.cell? ⟨ga, 0, none⟩ = some (.int .i64 x) := by
          obtain ⟨a, ha, hc⟩ := Kd.at_int (Kd.R_reads' HI1.out.oth).2.2 0 (by omega) (by omega)
          cases ha
          rw [← hx0]
          exact hc
        have c1_y' : w1.cell? ⟨ga, 1, none⟩ = some (.int .i64 y) := by
          obtain ⟨a, ha, hc⟩ := Kd.at_int (Kd.R_reads' HI1.out.oth).2.2 1 (by omega) (by omega)
          cases ha
          rw [← hy0]
          exact hc
        have hgc := gave_calls w1 g gm b.gv ((blk_cell HI1.out.blk 4).trans rfl) HI1.out.gv x HWX.out
        rw [hX] at hgc
        have HGC := Lib.hid hgc
        clear hgc
        go_wp2_with fail
        with_reducible refine HGC.out.mono ?_
        rintro e w2 ⟨rfl, hb1⟩
        have HI2 := Lib.hid (HI1.out.below hb1)
        have HB2 := Lib.hid (below_then HB1.out HB1.out.size hb1)
        clear hb1 HGC c1_1 c1_2 c1_3 c1_7 c1_x' c1_y'
        have c2_1 : w2.cell? ⟨g, 1, none⟩ = some (.int .i64 b.own.f1) := (blk_cell HI2.out.blk 1).trans rfl
        have c2_2 : w2.cell? ⟨g, 2, none⟩ = some (.int .i64 b.own.f2) := (blk_cell HI2.out.blk 2).trans rfl
        have c2_3 : w2.cell? ⟨g, 3, none⟩ = some (.slice (some ⟨ga, 0, none⟩) b.oth.length cO) := (blk_cell HI2.out.blk 3).trans rfl
        have c2_7 : w2.cell? ⟨g, 7, none⟩ = some (.slice AL b.left.length cL) := (blk_cell HI2.out.blk 7).trans rfl
        go_wp2_with fail
        with_reducible refine (init_calls _ g b.own.f1 c2_1).mono ?_
        rintro e w9 ⟨rfl, rfl⟩
        have HL := Lib.hid (show leftOf b = b.left by unfold leftOf; rw [if_neg (fun h => by rw [HE.out] at h; cases h.2)])
        cases d1 : (b.own.f1 == 1)
        all_goals
          have HCL := Lib.hid (Rg.clone_Range.calls AL cL b.left b.left w2 (Kd.R_reads' HI2.out.left).2.2 (R_cap HI2.out.left) (by unfold Rg.clone_Range.f; rw [if_pos (by omega)]))
          go_wp2_with fail
          with_reducible refine HCL.out.mono ?_
          rintro e w10 ⟨v10, rfl, hR, hb⟩
          have HR := Lib.hid hR
          have HB10 := Lib.hid (below_then HB2.out HB2.out.size hb)
          have HZ := Lib.hid HB2.out.size
          clear hR hb
          go_wp2
          go_ret
          exact ⟨_, rfl, by rw [HL.out]; exact Kd.R_lower HR.out HZ.out, HB10.out⟩
      | true =>
        cases hY : gave b.gv y with
        | false =>
          have HE := Lib.hid (show enough b = false by unfold enough; rw [hA, hy1, hY, Bool.and_false]; rfl)
          have c0_1 : w.cell? ⟨g, 1, none⟩ = some (.int .i64 b.own.f1) := (blk_cell HI.out.blk 1).trans rfl
          have c0_2 : w.cell? ⟨g, 2, none⟩ = some (.int .i64 b.own.f2) := (blk_cell HI.out.blk 2).trans rfl
          have c0_3 : w.cell? ⟨g, 3, none⟩ = some (.slice (some ⟨ga, 0, none⟩) b.oth.length cO) := (blk_cell HI.out.blk 3).trans rfl
          have c0_7 : w.cell? ⟨g, 7, none⟩ = some (.slice AL b.left.length cL) := (blk_cell HI.out.blk 7).trans rfl
          have hgc := gave_calls w g gm b.gv ((blk_cell HI.out.blk 4).trans rfl) HI.out.gv b.own.f2 HW.out.src
          rw [hA] at hgc
          have HGC := Lib.hid hgc
          clear hgc
          go_enter Try.func10, Try.ntmps10
          go_wp2_with fail
          with_reducible refine HGC.out.mono ?_
          rintro e w1 ⟨rfl, hb1⟩
          have HI1 := Lib.hid (HI.out.below hb1)
          have HB1 := Lib.hid hb1
          clear hb1 HGC c0_1 c0_2 c0_3 c0_7
          have c1_1 : w1.cell? ⟨g, 1, none⟩ = some (.int .i64 b.own.f1) := (blk_cell HI1.out.blk 1).trans rfl
          have c1_2 : w1.cell? ⟨g, 2, none⟩ = some (.int .i64 b.own.f2) := (blk_cell HI1.out.blk 2).trans rfl
          have c1_3 : w1.cell? ⟨g, 3, none⟩ = some (.slice (some ⟨ga, 0, none⟩) b.oth.length cO) := (blk_cell HI1.out.blk 3).trans rfl
          have c1_7 : w1.cell? ⟨g, 7, none⟩ = some (.slice AL b.left.length cL) := (blk_cell HI1.out.blk 7).trans rfl
          have c1_x' : w1.cell? ⟨ga, 0, none⟩ = some (.int .i64 x) := by
            obtain ⟨a, ha, hc⟩ := Kd.at_int (Kd.R_reads' HI1.out.oth).2.2 0 (by omega) (by omega)
            cases ha
            rw [← hx0]
            exact hc
          have c1_y' : w1.cell? ⟨ga, 1, none⟩ = some (.int .i64 y) := by
            obtain ⟨a, ha, hc⟩ := Kd.at_int (Kd.R_reads' HI1.out.oth).2.2 1 (by omega) (by omega)
            cases ha
            rw [← hy0]
            exact hc
          have hgc := gave_calls w1 g gm b.gv ((blk_cell HI1.out.blk 4).trans rfl) HI1.out.gv x HWX.out
          rw [hX] at hgc
          have HGC := Lib.hid hgc
          clear hgc
          go_wp2_with fail
          with_reducible refine HGC.out.mono ?_
          rintro e w2 ⟨rfl, hb1⟩
          have HI2 := Lib.hid (HI1.out.below hb1)
          have HB2 := Lib.hid (below_then HB1.out HB1.out.size hb1)
          clear hb1 HGC c1_1 c1_2 c1_3 c1_7 c1_x' c1_y'
          have c2_1 : w2.cell? ⟨g, 1, none⟩ = some (.int .i64 b.own.f1) := (blk_cell HI2.out.blk 1).trans rfl
          have c2_2 : w2.cell? ⟨g, 2, none⟩ = some (.int .i64 b.own.f2) := (blk_cell HI2.out.blk 2).trans rfl
          have c2_3 : w2.cell? ⟨g, 3, none⟩ = some (.slice (some ⟨ga, 0, none⟩) b.oth.length cO) := (blk_cell HI2.out.blk 3).trans rfl
          have c2_7 : w2.cell? ⟨g, 7, none⟩ = some (.slice AL b.left.length cL) := (blk_cell HI2.out.blk 7).trans rfl
          have c2_x' : w2.cell? ⟨ga, 0, none⟩ = some (.int .i64 x) := by
            obtain ⟨a, ha, hc⟩ := Kd.at_int (Kd.R_reads' HI2.out.oth).2.2 0 (by omega) (by omega)
            cases ha
            rw [← hx0]
            exact hc
          have c2_y' : w2.cell? ⟨ga, 1, none⟩ = some (.int .i64 y) := by
            obtain ⟨a, ha, hc⟩ := Kd.at_int (Kd.R_reads' HI2.out.oth).2.2 1 (by omega) (by omega)
            cases ha
            rw [← hy0]
            exact hc
          have hgc := gave_calls w2 g gm b.gv ((blk_cell HI2.out.blk 4).trans rfl) HI2.out.gv y HWY.out
          rw [hY] at hgc
          have HGC := Lib.hid hgc
          clear hgc
          go_wp2_with fail
          with_reducible refine HGC.out.mono ?_
          rintro e w3 ⟨rfl, hb1⟩
          have HI3 := Lib.hid (HI2.out.below hb1)
          have HB3 := Lib.hid (below_then HB2.out HB2.out.size hb1)
          clear hb1 HGC c2_1 c2_2 c2_3 c2_7 c2_x' c2_y'
          have c3_1 : w3.cell? ⟨g, 1, none⟩ = some (.int .i64 b.own.f1) := (blk_cell HI3.out.blk 1).trans rfl
          have c3_2 : w3.cell? ⟨g, 2, none⟩ = some (.int .i64 b.own.f2) := (blk_cell HI3.out.blk 2).trans rfl
          have c3_3 : w3.cell? ⟨g, 3, none⟩ = some (.slice (some ⟨ga, 0, none⟩) b.oth.length cO) := (blk_cell HI3.out.blk 3).trans rfl
          have c3_7 : w3.cell? ⟨g, 7, none⟩ = some (.slice AL b.left.length cL) := (blk_cell HI3.out.blk 7).trans rfl
          go_wp2_with fail
          with_reducible refine (init_calls _ g b.own.f1 c3_1).mono ?_
          rintro e w9 ⟨rfl, rfl⟩
          have HL := Lib.hid (show leftOf b = b.left by unfold leftOf; rw [if_neg (fun h => by rw [HE.out] at h; cases h.2)])
          cases d1 : (b.own.f1 == 1)
          all_goals
            have HCL := Lib.hid (Rg.clone_Range.calls AL cL b.left b.left w3 (Kd.R_reads' HI3.out.left).2.2 (R_cap HI3.out.left) (by unfold Rg.clone_Range.f; rw [if_pos (by omega)]))
            go_wp2_with fail
            with_reducible refine HCL.out.mono ?_
            rintro e w10 ⟨v10, rfl, hR, hb⟩
            have HR := Lib.hid hR
            have HB10 := Lib.hid (below_then HB3.out HB3.out.size hb)
            have HZ := Lib.hid HB3.out.size
            clear hR hb
            go_wp2
            go_ret
            exact ⟨_, rfl, by rw [HL.out]; exact Kd.R_lower HR.out HZ.out, HB10.out⟩
        | true =>
          have HE := Lib.hid (show enough b = true by unfold enough; rw [hA, hx1, hy1, hX, hY, hlen]; rfl)
          have c0_1 : w.cell? ⟨g, 1, none⟩ = some (.int .i64 b.own.f1) := (blk_cell HI.out.blk 1).trans rfl
          have c0_2 : w.cell? ⟨g, 2, none⟩ = some (.int .i64 b.own.f2) := (blk_cell HI.out.blk 2).trans rfl
          have c0_3 : w.cell? ⟨g, 3, none⟩ = some (.slice (some ⟨ga, 0, none⟩) b.oth.length cO) := (blk_cell HI.out.blk 3).trans rfl
          have c0_7 : w.cell? ⟨g, 7, none⟩ = some (.slice AL b.left.length cL) := (blk_cell HI.out.blk 7).trans rfl
          have hgc := gave_calls w g gm b.gv ((blk_cell HI.out.blk 4).trans rfl) HI.out.gv b.own.f2 HW.out.src
          rw [hA] at hgc
          have HGC := Lib.hid hgc
          clear hgc
          go_enter Try.func10, Try.ntmps10
          go_wp2_with fail
          with_reducible refine HGC.out.mono ?_
          rintro e w1 ⟨rfl, hb1⟩
          have HI1 := Lib.hid (HI.out.below hb1)
          have HB1 := Lib.hid hb1
          clear hb1 HGC c0_1 c0_2 c0_3 c0_7
          have c1_1 : w1.cell? ⟨g, 1, none⟩ = some (.int .i64 b.own.f1) := (blk_cell HI1.out.blk 1).trans rfl
          have c1_2 : w1.cell? ⟨g, 2, none⟩ = some (.int .i64 b.own.f2) := (blk_cell HI1.out.blk 2).trans rfl
          have c1_3 : w1.cell? ⟨g, 3, none⟩ = some (.slice (some ⟨ga, 0, none⟩) b.oth.length cO) := (blk_cell HI1.out.blk 3).trans rfl
          have c1_7 : w1.cell? ⟨g, 7, none⟩ = some (.slice AL b.left.length cL) := (blk_cell HI1.out.blk 7).trans rfl
          have c1_x' : w1.cell? ⟨ga, 0, none⟩ = some (.int .i64 x) := by
            obtain ⟨a, ha, hc⟩ := Kd.at_int (Kd.R_reads' HI1.out.oth).2.2 0 (by omega) (by omega)
            cases ha
            rw [← hx0]
            exact hc
          have c1_y' : w1.cell? ⟨ga, 1, none⟩ = some (.int .i64 y) := by
            obtain ⟨a, ha, hc⟩ := Kd.at_int (Kd.R_reads' HI1.out.oth).2.2 1 (by omega) (by omega)
            cases ha
            rw [← hy0]
            exact hc
          have hgc := gave_calls w1 g gm b.gv ((blk_cell HI1.out.blk 4).trans rfl) HI1.out.gv x HWX.out
          rw [hX] at hgc
          have HGC := Lib.hid hgc
          clear hgc
          go_wp2_with fail
          with_reducible refine HGC.out.mono ?_
          rintro e w2 ⟨rfl, hb1⟩
          have HI2 := Lib.hid (HI1.out.below hb1)
          have HB2 := Lib.hid (below_then HB1.out HB1.out.size hb1)
          clear hb1 HGC c1_1 c1_2 c1_3 c1_7 c1_x' c1_y'
          have c2_1 : w2.cell? ⟨g, 1, none⟩ = some (.int .i64 b.own.f1) := (blk_cell HI2.out.blk 1).trans rfl
          have c2_2 : w2.cell? ⟨g, 2, none⟩ = some (.int .i64 b.own.f2) := (blk_cell HI2.out.blk 2).trans rfl
          have c2_3 : w2.cell? ⟨g, 3, none⟩ = some (.slice (some ⟨ga, 0, none⟩) b.oth.length cO) := (blk_cell HI2.out.blk 3).trans rfl
          have c2_7 : w2.cell? ⟨g, 7, none⟩ = some (.slice AL b.left.length cL) := (blk_cell HI2.out.blk 7).trans rfl
          have c2_x' : w2.cell? ⟨ga, 0, none⟩ = some (.int .i64 x) := by
            obtain ⟨a, ha, hc⟩ := Kd.at_int (Kd.R_reads' HI2.out.oth).2.2 0 (by omega) (by omega)
            cases ha
            rw [← hx0]
            exact hc
          have c2_y' : w2.cell? ⟨ga, 1, none⟩ = some (.int .i64 y) := by
            obtain ⟨a, ha, hc⟩ := Kd.at_int (Kd.R_reads' HI2.out.oth).2.2 1 (by omega) (by omega)
            cases ha
            rw [← hy0]
            exact hc
          have hgc := gave_calls w2 g gm b.gv ((blk_cell HI2.out.blk 4).trans rfl) HI2.out.gv y HWY.out
          rw [hY] at hgc
          have HGC := Lib.hid hgc
          clear hgc
          go_wp2_with fail
          with_reducible refine HGC.out.mono ?_
          rintro e w3 ⟨rfl, hb1⟩
          have HI3 := Lib.hid (HI2.out.below hb1)
          have HB3 := Lib.hid (below_then HB2.out HB2.out.size hb1)
          clear hb1 HGC c2_1 c2_2 c2_3 c2_7 c2_x' c2_y'
          have c3_1 : w3.cell? ⟨g, 1, none⟩ = some (.int .i64 b.own.f1) := (blk_cell HI3.out.blk 1).trans rfl
          have c3_2 : w3.cell? ⟨g, 2, none⟩ = some (.int .i64 b.own.f2) := (blk_cell HI3.out.blk 2).trans rfl
          have c3_3 : w3.cell? ⟨g, 3, none⟩ = some (.slice (some ⟨ga, 0, none⟩) b.oth.length cO) := (blk_cell HI3.out.blk 3).trans rfl
          have c3_7 : w3.cell? ⟨g, 7, none⟩ = some (.slice AL b.left.length cL) := (blk_cell HI3.out.blk 7).trans rfl
          go_wp2_with fail
          with_reducible refine (init_calls _ g b.own.f1 c3_1).mono ?_
          rintro e w9 ⟨rfl, rfl⟩
          by_cases hst : b.own.f1 = 1
          · have d1 : (b.own.f1 == 1) = true := beq_iff_eq.2 hst
            have HL := Lib.hid (show leftOf b = [] by unfold leftOf; rw [if_pos ⟨hst, HE.out⟩])
            clear hst
            go_wp2
            go_ret
            exact ⟨_, rfl, by rw [HL.out]; exact Kd.R_nil _ _ _ _ _, HB3.out⟩
          · have d1 : (b.own.f1 == 1) = false := beq_eq_false_iff_ne.2 hst
            have HL := Lib.hid (show leftOf b = b.left by unfold leftOf; rw [if_neg (fun h => hst h.1)])
            clear hst
            have HCL := Lib.hid (Rg.clone_Range.calls AL cL b.left b.left w3 (Kd.R_reads' HI3.out.left).2.2 (R_cap HI3.out.left) (by unfold Rg.clone_Range.f; rw [if_pos (by omega)]))
            go_wp2_with fail
            with_reducible refine HCL.out.mono ?_
            rintro e w10 ⟨v10, rfl, hR, hb⟩
            have HR := Lib.hid hR
            have HB10 := Lib.hid (below_then HB3.out HB3.out.size hb)
            have HZ := Lib.hid HB3.out.size
            clear hR hb
            go_wp2
            go_ret
            exact ⟨_, rfl, by rw [HL.out]; exact Kd.R_lower HR.out HZ.out, HB10.out⟩
set_option maxHeartbeats 1000000 in
theorem done_calls (w : World) (B g gm gp : Nat) (vO vL : Value) (b : Bo) (h : Is w B g gm gp vO vL b) (hw : Wf b) :
    Calls Try.prog 12 #[.pointer (some ⟨g, 0, none⟩)] w fun e w' => e = .returned (.bool (decide (leftOf b = []))) ∧ Below w.heap.size w w' := by
  have HL := Lib.hid (left_calls w B g gm gp vO vL b h hw)
  clear h hw
  go_enter Try.func12, Try.ntmps12
  go_wp2_with fail
  with_reducible refine HL.out.mono ?_
  rintro e w1 ⟨v, rfl, hR, hb⟩
  obtain ⟨A, c, rfl⟩ := Kd.R_slice hR
  have HB := Lib.hid hb
  clear hR hb HL
  go_wp2
  go_ret
  refine ⟨?_, HB.out⟩
  cases leftOf b with
  | nil => rfl
  | cons x l => simp; omega
end Bt
end Go.Proofs.Ytiinmagnpkfbbaa
