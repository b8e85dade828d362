/- The boots: hold at nothing, Got of nothing. -/
import Derived.Test.YtiinmagnpkfbbaaBootE
namespace Go.Proofs.Ytiinmagnpkfbbaa
set_option linter.unusedVariables false
set_option linter.unusedSimpArgs false
open Go.RowKit Go.Proofs.YtiinmagnpkfbbaaW.PrintWords Go.Proofs.YtiinmagnpkfbbaaW.PrintLast Go.Proofs.YtiinmagnpkfbbaaW.PrintMore Go.Proofs.Ytiinmagnpkfbbaa.QT
namespace Bt
set_option maxHeartbeats 1000000 in
theorem hold_nil (w : World) (q : Option Addr) (c : Nat) : Calls Try.prog 25 #[.pointer q, .slice none 0 c] w fun e w' => e = .returned (.tuple #[]) ∧ Below w.heap.size w w' := by
  have H0 := Lib.hid (Below.refl w.heap.size w)
  go_enter Try.func25, Try.ntmps25
  go_wp2_with ((with_reducible refine gate_dst (N := 2) rfl ?_); refine box_event rfl (N := 2) rfl (cs := #[.pointer q]) (t := 30) ?hr ?_; (case hr => first | (go_simp; done) | (go_simp; rfl)); intro g2 hg2 X hbox hbX; have HX := Lib.hid hbX; clear hg2 hbox hbX)
  go_loopg [10] 1 (fun gn v10 wr => v10 = .int .i64 0 ∧ Aside0 (Below w.heap.size w wr))
  case atStart => exact ⟨rfl, ⟨HX.out⟩⟩
  case round =>
    obtain ⟨rfl, HB⟩ := hrel
    go_wp2
    go_end0
    exact ⟨rfl, HB.out⟩
set_option maxHeartbeats 2000000 in
set_option maxRecDepth 100000 in
theorem got_nil (w : World) (B g gm gp : Nat) (vO vL : Value) (b : Bo) (h : Is w B g gm gp vO vL b) (hw : Wf b) (p : Int) (hp : (Lit.int .i64 p).wf = true) (hn : b.gv.length < maxLen) (hst : b.own.f1 = 1) (hpe : p = b.own.f2 ∨ p ∈ b.oth) :
    Calls Try.prog 11 #[.pointer (some ⟨g, 0, none⟩), .int .i64 p, .slice none 0 0] w fun e w' => e = .returned (.bool true) ∧ Is w' B g gm gp vO vL { b with gv := XM.aput b.gv p () } ∧ w.grownBy w' (some gm) := by
  have HI := Lib.hid h
  have HW := Lib.hid hw
  have HPW := Lib.hid (isKI p hp)
  have HN := Lib.hid hn
  obtain ⟨AO, cO, rfl⟩ := Kd.R_slice h.oth
  have HIN := Lib.hid (init_calls w g b.own.f1 ((blk_cell h.blk 1).trans rfl))
  rw [beq_iff_eq.2 hst] at HIN
  have c2 : w.cell? ⟨g, 2, none⟩ = some (.int .i64 b.own.f2) := (blk_cell h.blk 2).trans rfl
  have c3 : w.cell? ⟨g, 3, none⟩ = some (.slice AO b.oth.length cO) := (blk_cell h.blk 3).trans rfl
  have HCO := Lib.hid (Pl.contains_calls w AO cO b.oth (Kd.R_reads' h.oth).2.2 (R_cap h.oth) (Nat.le_trans hw.l1 (by decide)) p)
  clear h hw hp hn hst
  cases d1 : (p != b.own.f2) with
  | false =>
    clear hpe
    go_enter Try.func11, Try.ntmps11
    go_wp2_with fail
    with_reducible refine HIN.out.mono ?_
    rintro e w1 ⟨rfl, rfl⟩
    have HI1 := HI
    have HB1 := Lib.hid (Below.refl w.heap.size w)
    go_wp2_with fail
    with_reducible refine (hold_nil _ _ _).mono ?_
    rintro e w5 ⟨rfl, hb5⟩
    have HI5 := Lib.hid (HI1.out.below hb5)
    have HB5 := Lib.hid (below_then HB1.out HB1.out.size hb5)
    clear hb5
    have e4 : w5.cell? ⟨g, 4, none⟩ = some (.map (some gm)) := (blk_cell HI5.out.blk 4).trans rfl
    go_wp2_with (at_mapUpdate; refine XM.wp_store _ rfl _ _ _ 56 rfl 3 68 encI Try.underlying56 gm b.gv rfl HI5.out.gv HN.out p rfl HPW.out () rfl ?_; intro w6 hm6 hg6 hs6; have HM6 := Lib.hid hm6; have HG6 := Lib.hid hg6; clear hm6 hg6 hs6)
    go_ret
    exact ⟨rfl, HI5.out.given HG6.out HM6.out, World.grownBy.trans (grown_of_below HB5.out _) HG6.out⟩
  | true =>
    have hmem : p ∈ b.oth := by
      rcases hpe with e | h
      · rw [e] at d1; simp at d1
      · exact h
    rw [decide_eq_true hmem] at HCO
    clear hpe hmem
    go_enter Try.func11, Try.ntmps11
    go_wp2_with fail
    with_reducible refine HIN.out.mono ?_
    rintro e w1 ⟨rfl, rfl⟩
    go_wp2_with fail
    with_reducible refine HCO.out.mono ?_
    rintro e w1 ⟨rfl, hb1⟩
    have HI1 := Lib.hid (HI.out.below hb1)
    have HB1 := Lib.hid hb1
    clear hb1 c2 c3
    go_wp2_with fail
    with_reducible refine (hold_nil _ _ _).mono ?_
    rintro e w5 ⟨rfl, hb5⟩
    have HI5 := Lib.hid (HI1.out.below hb5)
    have HB5 := Lib.hid (below_then HB1.out HB1.out.size hb5)
    clear hb5
    have e4 : w5.cell? ⟨g, 4, none⟩ = some (.map (some gm)) := (blk_cell HI5.out.blk 4).trans rfl
    go_wp2_with (at_mapUpdate; refine XM.wp_store _ rfl _ _ _ 56 rfl 3 68 encI Try.underlying56 gm b.gv rfl HI5.out.gv HN.out p rfl HPW.out () rfl ?_; intro w6 hm6 hg6 hs6; have HM6 := Lib.hid hm6; have HG6 := Lib.hid hg6; clear hm6 hg6 hs6)
    go_ret
    exact ⟨rfl, HI5.out.given HG6.out HM6.out, World.grownBy.trans (grown_of_below HB5.out _) HG6.out⟩
end Bt
end Go.Proofs.Ytiinmagnpkfbbaa
