-- Laid by wip/tools/myprint.py of this repo. Not trusted: Lean checks it.
import Derived.Test.YtgfaocfdknckpaaDoorQA0
namespace Go.Proofs.YtgfaocfdknckpaaDoor.QA
open Go.RowKit Go.Proofs.YtgfaocfdknckpaaDoorW.PrintWords Go.Proofs.YtgfaocfdknckpaaDoorW.PrintLast Go.Proofs.YtgfaocfdknckpaaDoorW.PrintMore
attribute [local go_sem] max2_int min2_int max_two min_two max_three min_three max_four min_four   -- for this text's walks alone
set_option linter.unusedVariables false
set_option linter.unusedSimpArgs false

/-! ### fileset_fits: function 11 -/
def fileset_fits.f (a0 : Int) (a1 : Int) (a2 : Int) : Option (Bool) := if a1 ≤ a0 then (some (decide (a0 ≤ a2))) else (some false)
set_option maxHeartbeats 8000000 in
set_option maxRecDepth 100000 in
theorem fileset_fits.calls (a0 : Int) (a1 : Int) (a2 : Int) (r : Bool) (w : World) (h : fileset_fits.f a0 a1 a2 = some r) :
    Calls Tryd.prog 11 #[.int .i64 a0, .int .i64 a1, .int .i64 a2] w fun e w' => e = .returned (.bool r) ∧ Drawn0 w w' := by
  have H : (if a1 ≤ a0 then (some (decide (a0 ≤ a2))) else (some false)) = some r := h
  clear h
  by_cases c4 : a1 ≤ a0
  · rw [if_pos c4] at H
    have c4b0 : decide (a1 ≤ a0) = true := decide_eq_true c4
    clear c4
    obtain rfl := Option.some.inj H
    go_enter Tryd.func11, Tryd.ntmps11
    go_wp2
    go_ret
    exact ⟨by first | rfl | (simp; done) | (simp [*]; done), by repeat (first | exact Drawn0.refl _ | apply Drawn0.step)⟩
  · rw [if_neg c4] at H
    have c4b0 : decide (a1 ≤ a0) = false := decide_eq_false c4
    clear c4
    obtain rfl := Option.some.inj H
    go_enter Tryd.func11, Tryd.ntmps11
    go_wp2
    go_ret
    exact ⟨by first | rfl | (simp; done) | (simp [*]; done), by repeat (first | exact Drawn0.refl _ | apply Drawn0.step)⟩

/-! ### fileset_Key_fits: function 6 -/
def fileset_Key_fits.f (a0_0 : Int) (a0_1 : Int) (a0_2 : Int) (a0_3 : Int) : Option (Bool) := (fileset_fits.f a0_0 0 3).bind fun t102 => (if t102 = true then ((fileset_fits.f a0_1 0 7).bind fun t103 => (if t103 = true then ((fileset_fits.f a0_2 0 1099511627776).bind fun t104 => (if t104 = true then ((fileset_fits.f a0_3 1 999999).bind fun t105 => (some t105)) else (some false))) else (some false))) else (some false))
set_option maxHeartbeats 8000000 in
set_option maxRecDepth 100000 in
theorem fileset_Key_fits.calls (a0_0 : Int) (a0_1 : Int) (a0_2 : Int) (a0_3 : Int) (r : Bool) (w : World) (h : fileset_Key_fits.f a0_0 a0_1 a0_2 a0_3 = some r) :
    Calls Tryd.prog 6 #[.agg #[.int .i64 a0_0, .int .i64 a0_1, .int .i64 a0_2, .int .i64 a0_3]] w fun e w' => e = .returned (.bool r) ∧ Below w.heap.size w w' := by
  have hu23 := Tryd.underlying23
  have HB := Aside0.mk (Below.refl w.heap.size w)
  have H : ((fileset_fits.f a0_0 0 3).bind fun t102 => (if t102 = true then ((fileset_fits.f a0_1 0 7).bind fun t103 => (if t103 = true then ((fileset_fits.f a0_2 0 1099511627776).bind fun t104 => (if t104 = true then ((fileset_fits.f a0_3 1 999999).bind fun t105 => (some t105)) else (some false))) else (some false))) else (some false))) = some r := h
  clear h
  replace H := Option.bind_eq_some_iff.mp H
  obtain ⟨t102, A20, H⟩ := H
  replace H : (if t102 = true then ((fileset_fits.f a0_1 0 7).bind fun t103 => (if t103 = true then ((fileset_fits.f a0_2 0 1099511627776).bind fun t104 => (if t104 = true then ((fileset_fits.f a0_3 1 999999).bind fun t105 => (some t105)) else (some false))) else (some false))) else (some false)) = some r := H
  have A2 := Aside0.mk A20
  clear A20
  by_cases c3 : t102 = true
  · subst c3
    have H1 : ((fileset_fits.f a0_1 0 7).bind fun t103 => (if t103 = true then ((fileset_fits.f a0_2 0 1099511627776).bind fun t104 => (if t104 = true then ((fileset_fits.f a0_3 1 999999).bind fun t105 => (some t105)) else (some false))) else (some false))) = some r := by rw [if_pos rfl] at H; exact H
    clear H
    have H := H1
    clear H1
    replace H := Option.bind_eq_some_iff.mp H
    obtain ⟨t103, A40, H⟩ := H
    replace H : (if t103 = true then ((fileset_fits.f a0_2 0 1099511627776).bind fun t104 => (if t104 = true then ((fileset_fits.f a0_3 1 999999).bind fun t105 => (some t105)) else (some false))) else (some false)) = some r := H
    have A4 := Aside0.mk A40
    clear A40
    by_cases c5 : t103 = true
    · subst c5
      have H1 : ((fileset_fits.f a0_2 0 1099511627776).bind fun t104 => (if t104 = true then ((fileset_fits.f a0_3 1 999999).bind fun t105 => (some t105)) else (some false))) = some r := by rw [if_pos rfl] at H; exact H
      clear H
      have H := H1
      clear H1
      replace H := Option.bind_eq_some_iff.mp H
      obtain ⟨t104, A60, H⟩ := H
      replace H : (if t104 = true then ((fileset_fits.f a0_3 1 999999).bind fun t105 => (some t105)) else (some false)) = some r := H
      have A6 := Aside0.mk A60
      clear A60
      by_cases c7 : t104 = true
      · subst c7
        have H1 : ((fileset_fits.f a0_3 1 999999).bind fun t105 => (some t105)) = some r := by rw [if_pos rfl] at H; exact H
        clear H
        have H := H1
        clear H1
        replace H := Option.bind_eq_some_iff.mp H
        obtain ⟨t105, A80, H⟩ := H
        replace H : (some t105) = some r := H
        have A8 := Aside0.mk A80
        clear A80
        obtain rfl := Option.some.inj H
        go_enter Tryd.func6, Tryd.ntmps6
        go_wp2_with (first | ((with_reducible refine gate_dst (N := 1) rfl ?_); refine box_event ?hg (N := 1) ?hd (cs := #[.int .i64 a0_0, .int .i64 a0_1, .int .i64 a0_2, .int .i64 a0_3]) (t := 23) ?hr ?_; (case hd => rfl); (case hg => rfl); (case hr => first | (go_simp; done) | (go_simp; rfl)); intro gb101 hg w9 hbox hb; have n0_ := Aside0.mk (below_step (by repeat (first | (with_reducible first | exact HB.out | apply below_alloc | apply pw_below_drewN | apply below_drew1) | exact HB.out)) hb); have n1_ := Aside0.mk (hbox); have n2_ := Aside0.mk ((by rw [hg]; exact (below_size (by repeat (first | (with_reducible first | exact HB.out | apply below_alloc | apply pw_below_drewN | apply below_drew1) | exact HB.out))) : w.heap.size ≤ gb101)); have n3_ := Aside0.mk ((by rw [hg]; exact (below_size (by repeat (first | (with_reducible first | exact HB.out | apply below_alloc | apply pw_below_drewN | apply below_drew1) | exact HB.out))) : w.heap.size ≤ gb101)); clear HB; have HB := n0_; have BK101 := n1_; have GW101 := n2_; have GE101 := n3_; clear n0_ n1_ n2_ n3_; clear hb hbox hg; have hcz10_0 : w9.cell? ⟨gb101, 0, none⟩ = some (.int .i64 a0_0) := (blk_cell BK101.out 0).trans rfl; have hcz10_1 : w9.cell? ⟨gb101, 1, none⟩ = some (.int .i64 a0_1) := (blk_cell BK101.out 1).trans rfl; have hcz10_2 : w9.cell? ⟨gb101, 2, none⟩ = some (.int .i64 a0_2) := (blk_cell BK101.out 2).trans rfl; have hcz10_3 : w9.cell? ⟨gb101, 3, none⟩ = some (.int .i64 a0_3) := (blk_cell BK101.out 3).trans rfl; have hfz10_0 := blk_frozen BK101.out 0; have hfz10_1 := blk_frozen BK101.out 1; have hfz10_2 := blk_frozen BK101.out 2; have hfz10_3 := blk_frozen BK101.out 3) | ((with_reducible refine gate_callee (f := 11) rfl ?_); refine goesL_ (some 5) rfl rfl Tryd.func11 (by kernel_rfl) rfl #[.int .i64 a0_0, .int .i64 0, .int .i64 3] rfl (by (try simp only [List.map_toArray, List.map_cons, List.map_nil]); first | done | rfl | (simp only [List.length_drop, List.length_take]; rfl)) ?_; (with_reducible refine (fileset_fits.calls a0_0 0 3 true _ A2.out).mono ?_); rintro e w' ⟨rfl, ⟨nd, rfl⟩⟩; refine ⟨_, rfl, ?_⟩) | (go_at_call 11; (with_reducible refine (fileset_fits.calls a0_1 0 7 true _ A4.out).mono ?_); rintro e w' ⟨rfl, ⟨nd, rfl⟩⟩) | (go_at_call 11; (with_reducible refine (fileset_fits.calls a0_2 0 1099511627776 true _ A6.out).mono ?_); rintro e w' ⟨rfl, ⟨nd, rfl⟩⟩) | (go_at_call 11; (with_reducible refine (fileset_fits.calls a0_3 1 999999 t105 _ A8.out).mono ?_); rintro e w' ⟨rfl, ⟨nd, rfl⟩⟩))
        go_ret
        exact ⟨by first | rfl | (simp [errW_none, errW_some] <;> rfl) | (simp [*, errW_none, errW_some] <;> rfl), by repeat (first | (with_reducible first | exact HB.out | apply below_alloc | apply pw_below_drewN | apply below_drew1 | refine below_set ?_ GE101.out) | exact HB.out)⟩
      · replace c7 := Bool.eq_false_iff.mpr c7
        subst c7
        have H1 : (some false) = some r := by rw [if_neg (show ¬ (false = true) by decide)] at H; exact H
        clear H
        have H := H1
        clear H1
        obtain rfl := Option.some.inj H
        go_enter Tryd.func6, Tryd.ntmps6
        go_wp2_with (first | ((with_reducible refine gate_dst (N := 1) rfl ?_); refine box_event ?hg (N := 1) ?hd (cs := #[.int .i64 a0_0, .int .i64 a0_1, .int .i64 a0_2, .int .i64 a0_3]) (t := 23) ?hr ?_; (case hd => rfl); (case hg => rfl); (case hr => first | (go_simp; done) | (go_simp; rfl)); intro gb101 hg w11 hbox hb; have n0_ := Aside0.mk (below_step (by repeat (first | (with_reducible first | exact HB.out | apply below_alloc | apply pw_below_drewN | apply below_drew1) | exact HB.out)) hb); have n1_ := Aside0.mk (hbox); have n2_ := Aside0.mk ((by rw [hg]; exact (below_size (by repeat (first | (with_reducible first | exact HB.out | apply below_alloc | apply pw_below_drewN | apply below_drew1) | exact HB.out))) : w.heap.size ≤ gb101)); have n3_ := Aside0.mk ((by rw [hg]; exact (below_size (by repeat (first | (with_reducible first | exact HB.out | apply below_alloc | apply pw_below_drewN | apply below_drew1) | exact HB.out))) : w.heap.size ≤ gb101)); clear HB; have HB := n0_; have BK101 := n1_; have GW101 := n2_; have GE101 := n3_; clear n0_ n1_ n2_ n3_; clear hb hbox hg; have hcz12_0 : w11.cell? ⟨gb101, 0, none⟩ = some (.int .i64 a0_0) := (blk_cell BK101.out 0).trans rfl; have hcz12_1 : w11.cell? ⟨gb101, 1, none⟩ = some (.int .i64 a0_1) := (blk_cell BK101.out 1).trans rfl; have hcz12_2 : w11.cell? ⟨gb101, 2, none⟩ = some (.int .i64 a0_2) := (blk_cell BK101.out 2).trans rfl; have hcz12_3 : w11.cell? ⟨gb101, 3, none⟩ = some (.int .i64 a0_3) := (blk_cell BK101.out 3).trans rfl; have hfz12_0 := blk_frozen BK101.out 0; have hfz12_1 := blk_frozen BK101.out 1; have hfz12_2 := blk_frozen BK101.out 2; have hfz12_3 := blk_frozen BK101.out 3) | ((with_reducible refine gate_callee (f := 11) rfl ?_); refine goesL_ (some 5) rfl rfl Tryd.func11 (by kernel_rfl) rfl #[.int .i64 a0_0, .int .i64 0, .int .i64 3] rfl (by (try simp only [List.map_toArray, List.map_cons, List.map_nil]); first | done | rfl | (simp only [List.length_drop, List.length_take]; rfl)) ?_; (with_reducible refine (fileset_fits.calls a0_0 0 3 true _ A2.out).mono ?_); rintro e w' ⟨rfl, ⟨nd, rfl⟩⟩; refine ⟨_, rfl, ?_⟩) | (go_at_call 11; (with_reducible refine (fileset_fits.calls a0_1 0 7 true _ A4.out).mono ?_); rintro e w' ⟨rfl, ⟨nd, rfl⟩⟩) | (go_at_call 11; (with_reducible refine (fileset_fits.calls a0_2 0 1099511627776 false _ A6.out).mono ?_); rintro e w' ⟨rfl, ⟨nd, rfl⟩⟩))
        go_ret
        exact ⟨by first | rfl | (simp [errW_none, errW_some] <;> rfl) | (simp [*, errW_none, errW_some] <;> rfl), by repeat (first | (with_reducible first | exact HB.out | apply below_alloc | apply pw_below_drewN | apply below_drew1 | refine below_set ?_ GE101.out) | exact HB.out)⟩
    · replace c5 := Bool.eq_false_iff.mpr c5
      subst c5
      have H1 : (some false) = some r := by rw [if_neg (show ¬ (false = true) by decide)] at H; exact H
      clear H
      have H := H1
      clear H1
      obtain rfl := Option.some.inj H
      go_enter Tryd.func6, Tryd.ntmps6
      go_wp2_with (first | ((with_reducible refine gate_dst (N := 1) rfl ?_); refine box_event ?hg (N := 1) ?hd (cs := #[.int .i64 a0_0, .int .i64 a0_1, .int .i64 a0_2, .int .i64 a0_3]) (t := 23) ?hr ?_; (case hd => rfl); (case hg => rfl); (case hr => first | (go_simp; done) | (go_simp; rfl)); intro gb101 hg w13 hbox hb; have n0_ := Aside0.mk (below_step (by repeat (first | (with_reducible first | exact HB.out | apply below_alloc | apply pw_below_drewN | apply below_drew1) | exact HB.out)) hb); have n1_ := Aside0.mk (hbox); have n2_ := Aside0.mk ((by rw [hg]; exact (below_size (by repeat (first | (with_reducible first | exact HB.out | apply below_alloc | apply pw_below_drewN | apply below_drew1) | exact HB.out))) : w.heap.size ≤ gb101)); have n3_ := Aside0.mk ((by rw [hg]; exact (below_size (by repeat (first | (with_reducible first | exact HB.out | apply below_alloc | apply pw_below_drewN | apply below_drew1) | exact HB.out))) : w.heap.size ≤ gb101)); clear HB; have HB := n0_; have BK101 := n1_; have GW101 := n2_; have GE101 := n3_; clear n0_ n1_ n2_ n3_; clear hb hbox hg; have hcz14_0 : w13.cell? ⟨gb101, 0, none⟩ = some (.int .i64 a0_0) := (blk_cell BK101.out 0).trans rfl; have hcz14_1 : w13.cell? ⟨gb101, 1, none⟩ = some (.int .i64 a0_1) := (blk_cell BK101.out 1).trans rfl; have hcz14_2 : w13.cell? ⟨gb101, 2, none⟩ = some (.int .i64 a0_2) := (blk_cell BK101.out 2).trans rfl; have hcz14_3 : w13.cell? ⟨gb101, 3, none⟩ = some (.int .i64 a0_3) := (blk_cell BK101.out 3).trans rfl; have hfz14_0 := blk_frozen BK101.out 0; have hfz14_1 := blk_frozen BK101.out 1; have hfz14_2 := blk_frozen BK101.out 2; have hfz14_3 := blk_frozen BK101.out 3) | ((with_reducible refine gate_callee (f := 11) rfl ?_); refine goesL_ (some 5) rfl rfl Tryd.func11 (by kernel_rfl) rfl #[.int .i64 a0_0, .int .i64 0, .int .i64 3] rfl (by (try simp only [List.map_toArray, List.map_cons, List.map_nil]); first | done | rfl | (simp only [List.length_drop, List.length_take]; rfl)) ?_; (with_reducible refine (fileset_fits.calls a0_0 0 3 true _ A2.out).mono ?_); rintro e w' ⟨rfl, ⟨nd, rfl⟩⟩; refine ⟨_, rfl, ?_⟩) | (go_at_call 11; (with_reducible refine (fileset_fits.calls a0_1 0 7 false _ A4.out).mono ?_); rintro e w' ⟨rfl, ⟨nd, rfl⟩⟩))
      go_ret
      exact ⟨by first | rfl | (simp [errW_none, errW_some] <;> rfl) | (simp [*, errW_none, errW_some] <;> rfl), by repeat (first | (with_reducible first | exact HB.out | apply below_alloc | apply pw_below_drewN | apply below_drew1 | refine below_set ?_ GE101.out) | exact HB.out)⟩
  · replace c3 := Bool.eq_false_iff.mpr c3
    subst c3
    have H1 : (some false) = some r := by rw [if_neg (show ¬ (false = true) by decide)] at H; exact H
    clear H
    have H := H1
    clear H1
    obtain rfl := Option.some.inj H
    go_enter Tryd.func6, Tryd.ntmps6
    go_wp2_with (first | ((with_reducible refine gate_dst (N := 1) rfl ?_); refine box_event ?hg (N := 1) ?hd (cs := #[.int .i64 a0_0, .int .i64 a0_1, .int .i64 a0_2, .int .i64 a0_3]) (t := 23) ?hr ?_; (case hd => rfl); (case hg => rfl); (case hr => first | (go_simp; done) | (go_simp; rfl)); intro gb101 hg w15 hbox hb; have n0_ := Aside0.mk (below_step (by repeat (first | (with_reducible first | exact HB.out | apply below_alloc | apply pw_below_drewN | apply below_drew1) | exact HB.out)) hb); have n1_ := Aside0.mk (hbox); have n2_ := Aside0.mk ((by rw [hg]; exact (below_size (by repeat (first | (with_reducible first | exact HB.out | apply below_alloc | apply pw_below_drewN | apply below_drew1) | exact HB.out))) : w.heap.size ≤ gb101)); have n3_ := Aside0.mk ((by rw [hg]; exact (below_size (by repeat (first | (with_reducible first | exact HB.out | apply below_alloc | apply pw_below_drewN | apply below_drew1) | exact HB.out))) : w.heap.size ≤ gb101)); clear HB; have HB := n0_; have BK101 := n1_; have GW101 := n2_; have GE101 := n3_; clear n0_ n1_ n2_ n3_; clear hb hbox hg; have hcz16_0 : w15.cell? ⟨gb101, 0, none⟩ = some (.int .i64 a0_0) := (blk_cell BK101.out 0).trans rfl; have hcz16_1 : w15.cell? ⟨gb101, 1, none⟩ = some (.int .i64 a0_1) := (blk_cell BK101.out 1).trans rfl; have hcz16_2 : w15.cell? ⟨gb101, 2, none⟩ = some (.int .i64 a0_2) := (blk_cell BK101.out 2).trans rfl; have hcz16_3 : w15.cell? ⟨gb101, 3, none⟩ = some (.int .i64 a0_3) := (blk_cell BK101.out 3).trans rfl; have hfz16_0 := blk_frozen BK101.out 0; have hfz16_1 := blk_frozen BK101.out 1; have hfz16_2 := blk_frozen BK101.out 2; have hfz16_3 := blk_frozen BK101.out 3) | ((with_reducible refine gate_callee (f := 11) rfl ?_); refine goesL_ (some 5) rfl rfl Tryd.func11 (by kernel_rfl) rfl #[.int .i64 a0_0, .int .i64 0, .int .i64 3] rfl (by (try simp only [List.map_toArray, List.map_cons, List.map_nil]); first | done | rfl | (simp only [List.length_drop, List.length_take]; rfl)) ?_; (with_reducible refine (fileset_fits.calls a0_0 0 3 false _ A2.out).mono ?_); rintro e w' ⟨rfl, ⟨nd, rfl⟩⟩; refine ⟨_, rfl, ?_⟩))
    go_ret
    exact ⟨by first | rfl | (simp [errW_none, errW_some] <;> rfl) | (simp [*, errW_none, errW_some] <;> rfl), by repeat (first | (with_reducible first | exact HB.out | apply below_alloc | apply pw_below_drewN | apply below_drew1 | refine below_set ?_ GE101.out) | exact HB.out)⟩

/-! ### fileset_Key_file: function 7 -/
def fileset_Key_file.f (a0_0 : Int) (a0_1 : Int) (a0_2 : Int) (a0_3 : Int) (a1 : ByteArray) : Option (ByteArray) := (strconv_Itoa.f a0_0).bind fun t107 => (if 1 + t107.size ≤ 9223372036854775807 then (if ((⟨#[118]⟩ : ByteArray) ++ t107).size + 1 ≤ 9223372036854775807 then ((strconv_Itoa.f a0_1).bind fun t108 => (if (((⟨#[118]⟩ : ByteArray) ++ t107) ++ (⟨#[45]⟩ : ByteArray)).size + t108.size ≤ 9223372036854775807 then (if ((((⟨#[118]⟩ : ByteArray) ++ t107) ++ (⟨#[45]⟩ : ByteArray)) ++ t108).size + 1 ≤ 9223372036854775807 then ((strconv_Itoa.f a0_2).bind fun t109 => (if (((((⟨#[118]⟩ : ByteArray) ++ t107) ++ (⟨#[45]⟩ : ByteArray)) ++ t108) ++ (⟨#[45]⟩ : ByteArray)).size + t109.size ≤ 9223372036854775807 then (if ((((((⟨#[118]⟩ : ByteArray) ++ t107) ++ (⟨#[45]⟩ : ByteArray)) ++ t108) ++ (⟨#[45]⟩ : ByteArray)) ++ t109).size + 1 ≤ 9223372036854775807 then ((strconv_Itoa.f a0_3).bind fun t110 => (if (((((((⟨#[118]⟩ : ByteArray) ++ t107) ++ (⟨#[45]⟩ : ByteArray)) ++ t108) ++ (⟨#[45]⟩ : ByteArray)) ++ t109) ++ (⟨#[45]⟩ : ByteArray)).size + t110.size ≤ 9223372036854775807 then (if ((((((((⟨#[118]⟩ : ByteArray) ++ t107) ++ (⟨#[45]⟩ : ByteArray)) ++ t108) ++ (⟨#[45]⟩ : ByteArray)) ++ t109) ++ (⟨#[45]⟩ : ByteArray)) ++ t110).size + 1 ≤ 9223372036854775807 then (if (((((((((⟨#[118]⟩ : ByteArray) ++ t107) ++ (⟨#[45]⟩ : ByteArray)) ++ t108) ++ (⟨#[45]⟩ : ByteArray)) ++ t109) ++ (⟨#[45]⟩ : ByteArray)) ++ t110) ++ (⟨#[46]⟩ : ByteArray)).size + a1.size ≤ 9223372036854775807 then (some ((((((((((⟨#[118]⟩ : ByteArray) ++ t107) ++ (⟨#[45]⟩ : ByteArray)) ++ t108) ++ (⟨#[45]⟩ : ByteArray)) ++ t109) ++ (⟨#[45]⟩ : ByteArray)) ++ t110) ++ (⟨#[46]⟩ : ByteArray)) ++ a1)) else (none)) else (none)) else (none))) else (none)) else (none))) else (none)) else (none))) else (none)) else (none))
def fileset_Key_file.T1 : Bool × List (List Nat × List Nat) := (true, [([], []), ([0], [0]), ([1], [1]), ([2], [2]), ([3], [3]), ([], []), ([5], [5]), ([6, 2], [6]), ([4, 7], [4, 7]), ([8], [8]), ([], []), ([10], [10]), ([11, 7], [11]), ([9, 12], [9, 12]), ([13], [13]), ([], []), ([15], [15]), ([16, 12], [16]), ([14, 17], [14, 17]), ([18], [18]), ([], []), ([19, 20], [19, 20]), ([21, 17, 0, 1, 2, 3, 4, 5, 6, 7, 8, 9, 10, 11, 12, 13, 14, 15, 16, 17, 18, 19, 20, 21], [21])])
def fileset_Key_file.B1 : List Nat := [0, 1, 3, 7, 15, 0, 32, 103, 255, 511, 0, 1024, 3303, 8191, 16383, 0, 32768, 105703, 262143, 524287, 0, 2097151, 4194303]
theorem fileset_Key_file.tab1 : rtab .any (opsOf Tryd.f7 1) = fileset_Key_file.T1 := by kernel_rfl
theorem fileset_Key_file.bits1 : waitsOk fileset_Key_file.T1.2 fileset_Key_file.B1 = true := by kernel_rfl
set_option maxHeartbeats 8000000 in
set_option maxRecDepth 100000 in
theorem fileset_Key_file.calls (a0_0 : Int) (a0_1 : Int) (a0_2 : Int) (a0_3 : Int) (a1 : ByteArray) (r : ByteArray) (w : World) (hG : Glob w) (h : fileset_Key_file.f a0_0 a0_1 a0_2 a0_3 a1 = some r) :
    Calls Tryd.prog 7 #[.agg #[.int .i64 a0_0, .int .i64 a0_1, .int .i64 a0_2, .int .i64 a0_3], .string a1] w fun e w' => e = .returned (.string r) ∧ Below w.heap.size w w' := by
  have hu23 := Tryd.underlying23
  have HB := Aside0.mk (Below.refl w.heap.size w)
  have HG := Aside0.mk hG
  clear hG
  have H : ((strconv_Itoa.f a0_0).bind fun t107 => (if 1 + t107.size ≤ 9223372036854775807 then (if ((⟨#[118]⟩ : ByteArray) ++ t107).size + 1 ≤ 9223372036854775807 then ((strconv_Itoa.f a0_1).bind fun t108 => (if (((⟨#[118]⟩ : ByteArray) ++ t107) ++ (⟨#[45]⟩ : ByteArray)).size + t108.size ≤ 9223372036854775807 then (if ((((⟨#[118]⟩ : ByteArray) ++ t107) ++ (⟨#[45]⟩ : ByteArray)) ++ t108).size + 1 ≤ 9223372036854775807 then ((strconv_Itoa.f a0_2).bind fun t109 => (if (((((⟨#[118]⟩ : ByteArray) ++ t107) ++ (⟨#[45]⟩ : ByteArray)) ++ t108) ++ (⟨#[45]⟩ : ByteArray)).size + t109.size ≤ 9223372036854775807 then (if ((((((⟨#[118]⟩ : ByteArray) ++ t107) ++ (⟨#[45]⟩ : ByteArray)) ++ t108) ++ (⟨#[45]⟩ : ByteArray)) ++ t109).size + 1 ≤ 9223372036854775807 then ((strconv_Itoa.f a0_3).bind fun t110 => (if (((((((⟨#[118]⟩ : ByteArray) ++ t107) ++ (⟨#[45]⟩ : ByteArray)) ++ t108) ++ (⟨#[45]⟩ : ByteArray)) ++ t109) ++ (⟨#[45]⟩ : ByteArray)).size + t110.size ≤ 9223372036854775807 then (if ((((((((⟨#[118]⟩ : ByteArray) ++ t107) ++ (⟨#[45]⟩ : ByteArray)) ++ t108) ++ (⟨#[45]⟩ : ByteArray)) ++ t109) ++ (⟨#[45]⟩ : ByteArray)) ++ t110).size + 1 ≤ 9223372036854775807 then (if (((((((((⟨#[118]⟩ : ByteArray) ++ t107) ++ (⟨#[45]⟩ : ByteArray)) ++ t108) ++ (⟨#[45]⟩ : ByteArray)) ++ t109) ++ (⟨#[45]⟩ : ByteArray)) ++ t110) ++ (⟨#[46]⟩ : ByteArray)).size + a1.size ≤ 9223372036854775807 then (some ((((((((((⟨#[118]⟩ : ByteArray) ++ t107) ++ (⟨#[45]⟩ : ByteArray)) ++ t108) ++ (⟨#[45]⟩ : ByteArray)) ++ t109) ++ (⟨#[45]⟩ : ByteArray)) ++ t110) ++ (⟨#[46]⟩ : ByteArray)) ++ a1)) else (none)) else (none)) else (none))) else (none)) else (none))) else (none)) else (none))) else (none)) else (none))) = some r := h
  clear h
  replace H := Option.bind_eq_some_iff.mp H
  obtain ⟨t107, A30, H⟩ := H
  replace H : (if 1 + t107.size ≤ 9223372036854775807 then (if ((⟨#[118]⟩ : ByteArray) ++ t107).size + 1 ≤ 9223372036854775807 then ((strconv_Itoa.f a0_1).bind fun t108 => (if (((⟨#[118]⟩ : ByteArray) ++ t107) ++ (⟨#[45]⟩ : ByteArray)).size + t108.size ≤ 9223372036854775807 then (if ((((⟨#[118]⟩ : ByteArray) ++ t107) ++ (⟨#[45]⟩ : ByteArray)) ++ t108).size + 1 ≤ 9223372036854775807 then ((strconv_Itoa.f a0_2).bind fun t109 => (if (((((⟨#[118]⟩ : ByteArray) ++ t107) ++ (⟨#[45]⟩ : ByteArray)) ++ t108) ++ (⟨#[45]⟩ : ByteArray)).size + t109.size ≤ 9223372036854775807 then (if ((((((⟨#[118]⟩ : ByteArray) ++ t107) ++ (⟨#[45]⟩ : ByteArray)) ++ t108) ++ (⟨#[45]⟩ : ByteArray)) ++ t109).size + 1 ≤ 9223372036854775807 then ((strconv_Itoa.f a0_3).bind fun t110 => (if (((((((⟨#[118]⟩ : ByteArray) ++ t107) ++ (⟨#[45]⟩ : ByteArray)) ++ t108) ++ (⟨#[45]⟩ : ByteArray)) ++ t109) ++ (⟨#[45]⟩ : ByteArray)).size + t110.size ≤ 9223372036854775807 then (if ((((((((⟨#[118]⟩ : ByteArray) ++ t107) ++ (⟨#[45]⟩ : ByteArray)) ++ t108) ++ (⟨#[45]⟩ : ByteArray)) ++ t109) ++ (⟨#[45]⟩ : ByteArray)) ++ t110).size + 1 ≤ 9223372036854775807 then (if (((((((((⟨#[118]⟩ : ByteArray) ++ t107) ++ (⟨#[45]⟩ : ByteArray)) ++ t108) ++ (⟨#[45]⟩ : ByteArray)) ++ t109) ++ (⟨#[45]⟩ : ByteArray)) ++ t110) ++ (⟨#[46]⟩ : ByteArray)).size + a1.size ≤ 9223372036854775807 then (some ((((((((((⟨#[118]⟩ : ByteArray) ++ t107) ++ (⟨#[45]⟩ : ByteArray)) ++ t108) ++ (⟨#[45]⟩ : ByteArray)) ++ t109) ++ (⟨#[45]⟩ : ByteArray)) ++ t110) ++ (⟨#[46]⟩ : ByteArray)) ++ a1)) else (none)) else (none)) else (none))) else (none)) else (none))) else (none)) else (none))) else (none)) else (none)) = some r := H
  have A3 := Aside0.mk A30
  clear A30
  by_cases c4 : 1 + t107.size ≤ 9223372036854775807
  · rw [if_pos c4] at H
    have c4b0 := eq_true c4
    have c4b1 : decide (1 + t107.size ≤ 9223372036854775807) = true := decide_eq_true c4
    try have c4b2 : (9223372036854775807 < 1 + t107.size) = False := eq_false (Nat.not_lt.2 c4)
    by_cases c5 : ((⟨#[118]⟩ : ByteArray) ++ t107).size + 1 ≤ 9223372036854775807
    · rw [if_pos c5] at H
      have c5b0 := eq_true c5
      have c5b1 : decide (((⟨#[118]⟩ : ByteArray) ++ t107).size + 1 ≤ 9223372036854775807) = true := decide_eq_true c5
      try have c5b2 : (9223372036854775807 < ((⟨#[118]⟩ : ByteArray) ++ t107).size + 1) = False := eq_false (Nat.not_lt.2 c5)
      try have c5b3 : (9223372036854775807 < 1 + t107.size + 1) = False := eq_false (Nat.not_lt.2 (by have h_ := c5; simp only [ByteArray.size_append] at h_; exact h_))
      replace H := Option.bind_eq_some_iff.mp H
      obtain ⟨t108, A60, H⟩ := H
      replace H : (if (((⟨#[118]⟩ : ByteArray) ++ t107) ++ (⟨#[45]⟩ : ByteArray)).size + t108.size ≤ 9223372036854775807 then (if ((((⟨#[118]⟩ : ByteArray) ++ t107) ++ (⟨#[45]⟩ : ByteArray)) ++ t108).size + 1 ≤ 9223372036854775807 then ((strconv_Itoa.f a0_2).bind fun t109 => (if (((((⟨#[118]⟩ : ByteArray) ++ t107) ++ (⟨#[45]⟩ : ByteArray)) ++ t108) ++ (⟨#[45]⟩ : ByteArray)).size + t109.size ≤ 9223372036854775807 then (if ((((((⟨#[118]⟩ : ByteArray) ++ t107) ++ (⟨#[45]⟩ : ByteArray)) ++ t108) ++ (⟨#[45]⟩ : ByteArray)) ++ t109).size + 1 ≤ 9223372036854775807 then ((strconv_Itoa.f a0_3).bind fun t110 => (if (((((((⟨#[118]⟩ : ByteArray) ++ t107) ++ (⟨#[45]⟩ : ByteArray)) ++ t108) ++ (⟨#[45]⟩ : ByteArray)) ++ t109) ++ (⟨#[45]⟩ : ByteArray)).size + t110.size ≤ 9223372036854775807 then (if ((((((((⟨#[118]⟩ : ByteArray) ++ t107) ++ (⟨#[45]⟩ : ByteArray)) ++ t108) ++ (⟨#[45]⟩ : ByteArray)) ++ t109) ++ (⟨#[45]⟩ : ByteArray)) ++ t110).size + 1 ≤ 9223372036854775807 then (if (((((((((⟨#[118]⟩ : ByteArray) ++ t107) ++ (⟨#[45]⟩ : ByteArray)) ++ t108) ++ (⟨#[45]⟩ : ByteArray)) ++ t109) ++ (⟨#[45]⟩ : ByteArray)) ++ t110) ++ (⟨#[46]⟩ : ByteArray)).size + a1.size ≤ 9223372036854775807 then (some ((((((((((⟨#[118]⟩ : ByteArray) ++ t107) ++ (⟨#[45]⟩ : ByteArray)) ++ t108) ++ (⟨#[45]⟩ : ByteArray)) ++ t109) ++ (⟨#[45]⟩ : ByteArray)) ++ t110) ++ (⟨#[46]⟩ : ByteArray)) ++ a1)) else (none)) else (none)) else (none))) else (none)) else (none))) else (none)) else (none)) = some r := H
      have A6 := Aside0.mk A60
      clear A60
      by_cases c7 : (((⟨#[118]⟩ : ByteArray) ++ t107) ++ (⟨#[45]⟩ : ByteArray)).size + t108.size ≤ 9223372036854775807
      · rw [if_pos c7] at H
        have c7b0 := eq_true c7
        have c7b1 : decide ((((⟨#[118]⟩ : ByteArray) ++ t107) ++ (⟨#[45]⟩ : ByteArray)).size + t108.size ≤ 9223372036854775807) = true := decide_eq_true c7
        try have c7b2 : (9223372036854775807 < (((⟨#[118]⟩ : ByteArray) ++ t107) ++ (⟨#[45]⟩ : ByteArray)).size + t108.size) = False := eq_false (Nat.not_lt.2 c7)
        try have c7b3 : (9223372036854775807 < 1 + t107.size + 1 + t108.size) = False := eq_false (Nat.not_lt.2 (by have h_ := c7; simp only [ByteArray.size_append] at h_; exact h_))
        by_cases c8 : ((((⟨#[118]⟩ : ByteArray) ++ t107) ++ (⟨#[45]⟩ : ByteArray)) ++ t108).size + 1 ≤ 9223372036854775807
        · rw [if_pos c8] at H
          have c8b0 := eq_true c8
          have c8b1 : decide (((((⟨#[118]⟩ : ByteArray) ++ t107) ++ (⟨#[45]⟩ : ByteArray)) ++ t108).size + 1 ≤ 9223372036854775807) = true := decide_eq_true c8
          try have c8b2 : (9223372036854775807 < ((((⟨#[118]⟩ : ByteArray) ++ t107) ++ (⟨#[45]⟩ : ByteArray)) ++ t108).size + 1) = False := eq_false (Nat.not_lt.2 c8)
          try have c8b3 : (9223372036854775807 < 1 + t107.size + 1 + t108.size + 1) = False := eq_false (Nat.not_lt.2 (by have h_ := c8; simp only [ByteArray.size_append] at h_; exact h_))
          replace H := Option.bind_eq_some_iff.mp H
          obtain ⟨t109, A90, H⟩ := H
          replace H : (if (((((⟨#[118]⟩ : ByteArray) ++ t107) ++ (⟨#[45]⟩ : ByteArray)) ++ t108) ++ (⟨#[45]⟩ : ByteArray)).size + t109.size ≤ 9223372036854775807 then (if ((((((⟨#[118]⟩ : ByteArray) ++ t107) ++ (⟨#[45]⟩ : ByteArray)) ++ t108) ++ (⟨#[45]⟩ : ByteArray)) ++ t109).size + 1 ≤ 9223372036854775807 then ((strconv_Itoa.f a0_3).bind fun t110 => (if (((((((⟨#[118]⟩ : ByteArray) ++ t107) ++ (⟨#[45]⟩ : ByteArray)) ++ t108) ++ (⟨#[45]⟩ : ByteArray)) ++ t109) ++ (⟨#[45]⟩ : ByteArray)).size + t110.size ≤ 9223372036854775807 then (if ((((((((⟨#[118]⟩ : ByteArray) ++ t107) ++ (⟨#[45]⟩ : ByteArray)) ++ t108) ++ (⟨#[45]⟩ : ByteArray)) ++ t109) ++ (⟨#[45]⟩ : ByteArray)) ++ t110).size + 1 ≤ 9223372036854775807 then (if (((((((((⟨#[118]⟩ : ByteArray) ++ t107) ++ (⟨#[45]⟩ : ByteArray)) ++ t108) ++ (⟨#[45]⟩ : ByteArray)) ++ t109) ++ (⟨#[45]⟩ : ByteArray)) ++ t110) ++ (⟨#[46]⟩ : ByteArray)).size + a1.size ≤ 9223372036854775807 then (some ((((((((((⟨#[118]⟩ : ByteArray) ++ t107) ++ (⟨#[45]⟩ : ByteArray)) ++ t108) ++ (⟨#[45]⟩ : ByteArray)) ++ t109) ++ (⟨#[45]⟩ : ByteArray)) ++ t110) ++ (⟨#[46]⟩ : ByteArray)) ++ a1)) else (none)) else (none)) else (none))) else (none)) else (none)) = some r := H
          have A9 := Aside0.mk A90
          clear A90
          by_cases c10 : (((((⟨#[118]⟩ : ByteArray) ++ t107) ++ (⟨#[45]⟩ : ByteArray)) ++ t108) ++ (⟨#[45]⟩ : ByteArray)).size + t109.size ≤ 9223372036854775807
          · rw [if_pos c10] at H
            have c10b0 := eq_true c10
            have c10b1 : decide ((((((⟨#[118]⟩ : ByteArray) ++ t107) ++ (⟨#[45]⟩ : ByteArray)) ++ t108) ++ (⟨#[45]⟩ : ByteArray)).size + t109.size ≤ 9223372036854775807) = true := decide_eq_true c10
            try have c10b2 : (9223372036854775807 < (((((⟨#[118]⟩ : ByteArray) ++ t107) ++ (⟨#[45]⟩ : ByteArray)) ++ t108) ++ (⟨#[45]⟩ : ByteArray)).size + t109.size) = False := eq_false (Nat.not_lt.2 c10)
            try have c10b3 : (9223372036854775807 < 1 + t107.size + 1 + t108.size + 1 + t109.size) = False := eq_false (Nat.not_lt.2 (by have h_ := c10; simp only [ByteArray.size_append] at h_; exact h_))
            by_cases c11 : ((((((⟨#[118]⟩ : ByteArray) ++ t107) ++ (⟨#[45]⟩ : ByteArray)) ++ t108) ++ (⟨#[45]⟩ : ByteArray)) ++ t109).size + 1 ≤ 9223372036854775807
            · rw [if_pos c11] at H
              have c11b0 := eq_true c11
              have c11b1 : decide (((((((⟨#[118]⟩ : ByteArray) ++ t107) ++ (⟨#[45]⟩ : ByteArray)) ++ t108) ++ (⟨#[45]⟩ : ByteArray)) ++ t109).size + 1 ≤ 9223372036854775807) = true := decide_eq_true c11
              try have c11b2 : (9223372036854775807 < ((((((⟨#[118]⟩ : ByteArray) ++ t107) ++ (⟨#[45]⟩ : ByteArray)) ++ t108) ++ (⟨#[45]⟩ : ByteArray)) ++ t109).size + 1) = False := eq_false (Nat.not_lt.2 c11)
              try have c11b3 : (9223372036854775807 < 1 + t107.size + 1 + t108.size + 1 + t109.size + 1) = False := eq_false (Nat.not_lt.2 (by have h_ := c11; simp only [ByteArray.size_append] at h_; exact h_))
              replace H := Option.bind_eq_some_iff.mp H
              obtain ⟨t110, A120, H⟩ := H
              replace H : (if (((((((⟨#[118]⟩ : ByteArray) ++ t107) ++ (⟨#[45]⟩ : ByteArray)) ++ t108) ++ (⟨#[45]⟩ : ByteArray)) ++ t109) ++ (⟨#[45]⟩ : ByteArray)).size + t110.size ≤ 9223372036854775807 then (if ((((((((⟨#[118]⟩ : ByteArray) ++ t107) ++ (⟨#[45]⟩ : ByteArray)) ++ t108) ++ (⟨#[45]⟩ : ByteArray)) ++ t109) ++ (⟨#[45]⟩ : ByteArray)) ++ t110).size + 1 ≤ 9223372036854775807 then (if (((((((((⟨#[118]⟩ : ByteArray) ++ t107) ++ (⟨#[45]⟩ : ByteArray)) ++ t108) ++ (⟨#[45]⟩ : ByteArray)) ++ t109) ++ (⟨#[45]⟩ : ByteArray)) ++ t110) ++ (⟨#[46]⟩ : ByteArray)).size + a1.size ≤ 9223372036854775807 then (some ((((((((((⟨#[118]⟩ : ByteArray) ++ t107) ++ (⟨#[45]⟩ : ByteArray)) ++ t108) ++ (⟨#[45]⟩ : ByteArray)) ++ t109) ++ (⟨#[45]⟩ : ByteArray)) ++ t110) ++ (⟨#[46]⟩ : ByteArray)) ++ a1)) else (none)) else (none)) else (none)) = some r := H
              have A12 := Aside0.mk A120
              clear A120
              by_cases c13 : (((((((⟨#[118]⟩ : ByteArray) ++ t107) ++ (⟨#[45]⟩ : ByteArray)) ++ t108) ++ (⟨#[45]⟩ : ByteArray)) ++ t109) ++ (⟨#[45]⟩ : ByteArray)).size + t110.size ≤ 9223372036854775807
              · rw [if_pos c13] at H
                have c13b0 := eq_true c13
                have c13b1 : decide ((((((((⟨#[118]⟩ : ByteArray) ++ t107) ++ (⟨#[45]⟩ : ByteArray)) ++ t108) ++ (⟨#[45]⟩ : ByteArray)) ++ t109) ++ (⟨#[45]⟩ : ByteArray)).size + t110.size ≤ 9223372036854775807) = true := decide_eq_true c13
                try have c13b2 : (9223372036854775807 < (((((((⟨#[118]⟩ : ByteArray) ++ t107) ++ (⟨#[45]⟩ : ByteArray)) ++ t108) ++ (⟨#[45]⟩ : ByteArray)) ++ t109) ++ (⟨#[45]⟩ : ByteArray)).size + t110.size) = False := eq_false (Nat.not_lt.2 c13)
                try have c13b3 : (9223372036854775807 < 1 + t107.size + 1 + t108.size + 1 + t109.size + 1 + t110.size) = False := eq_false (Nat.not_lt.2 (by have h_ := c13; simp only [ByteArray.size_append] at h_; exact h_))
                by_cases c14 : ((((((((⟨#[118]⟩ : ByteArray) ++ t107) ++ (⟨#[45]⟩ : ByteArray)) ++ t108) ++ (⟨#[45]⟩ : ByteArray)) ++ t109) ++ (⟨#[45]⟩ : ByteArray)) ++ t110).size + 1 ≤ 9223372036854775807
                · rw [if_pos c14] at H
                  have c14b0 := eq_true c14
                  have c14b1 : decide (((((((((⟨#[118]⟩ : ByteArray) ++ t107) ++ (⟨#[45]⟩ : ByteArray)) ++ t108) ++ (⟨#[45]⟩ : ByteArray)) ++ t109) ++ (⟨#[45]⟩ : ByteArray)) ++ t110).size + 1 ≤ 9223372036854775807) = true := decide_eq_true c14
                  try have c14b2 : (9223372036854775807 < ((((((((⟨#[118]⟩ : ByteArray) ++ t107) ++ (⟨#[45]⟩ : ByteArray)) ++ t108) ++ (⟨#[45]⟩ : ByteArray)) ++ t109) ++ (⟨#[45]⟩ : ByteArray)) ++ t110).size + 1) = False := eq_false (Nat.not_lt.2 c14)
                  try have c14b3 : (9223372036854775807 < 1 + t107.size + 1 + t108.size + 1 + t109.size + 1 + t110.size + 1) = False := eq_false (Nat.not_lt.2 (by have h_ := c14; simp only [ByteArray.size_append] at h_; exact h_))
                  by_cases c15 : (((((((((⟨#[118]⟩ : ByteArray) ++ t107) ++ (⟨#[45]⟩ : ByteArray)) ++ t108) ++ (⟨#[45]⟩ : ByteArray)) ++ t109) ++ (⟨#[45]⟩ : ByteArray)) ++ t110) ++ (⟨#[46]⟩ : ByteArray)).size + a1.size ≤ 9223372036854775807
                  · rw [if_pos c15] at H
                    have c15b0 := eq_true c15
                    have c15b1 : decide ((((((((((⟨#[118]⟩ : ByteArray) ++ t107) ++ (⟨#[45]⟩ : ByteArray)) ++ t108) ++ (⟨#[45]⟩ : ByteArray)) ++ t109) ++ (⟨#[45]⟩ : ByteArray)) ++ t110) ++ (⟨#[46]⟩ : ByteArray)).size + a1.size ≤ 9223372036854775807) = true := decide_eq_true c15
                    try have c15b2 : (9223372036854775807 < (((((((((⟨#[118]⟩ : ByteArray) ++ t107) ++ (⟨#[45]⟩ : ByteArray)) ++ t108) ++ (⟨#[45]⟩ : ByteArray)) ++ t109) ++ (⟨#[45]⟩ : ByteArray)) ++ t110) ++ (⟨#[46]⟩ : ByteArray)).size + a1.size) = False := eq_false (Nat.not_lt.2 c15)
                    try have c15b3 : (9223372036854775807 < 1 + t107.size + 1 + t108.size + 1 + t109.size + 1 + t110.size + 1 + a1.size) = False := eq_false (Nat.not_lt.2 (by have h_ := c15; simp only [ByteArray.size_append] at h_; exact h_))
                    obtain rfl := Option.some.inj H
                    go_enter Tryd.func7, Tryd.ntmps7
                    try go_wp2_with (first | ((with_reducible refine gate_dst (N := 2) rfl ?_); refine box_event ?hg (N := 2) ?hd (cs := #[.int .i64 a0_0, .int .i64 a0_1, .int .i64 a0_2, .int .i64 a0_3]) (t := 23) ?hr ?_; (case hd => rfl); (case hg => rfl); (case hr => first | (go_simp; done) | (go_simp; rfl)); intro gb106 hg w16 hbox hb; have n0_ := Aside0.mk (below_step (by repeat (first | (with_reducible first | exact HB.out | apply below_alloc | apply pw_below_drewN | apply below_drew1) | exact HB.out)) hb); have n1_ := Aside0.mk (hbox); have n2_ := Aside0.mk ((by rw [hg]; exact (below_size (by repeat (first | (with_reducible first | exact HB.out | apply below_alloc | apply pw_below_drewN | apply below_drew1) | exact HB.out))) : w.heap.size ≤ gb106)); have n3_ := Aside0.mk ((by rw [hg]; exact (below_size (by repeat (first | (with_reducible first | exact HB.out | apply below_alloc | apply pw_below_drewN | apply below_drew1) | exact HB.out))) : w.heap.size ≤ gb106)); clear HB; have HB := n0_; have BK106 := n1_; have GW106 := n2_; have GE106 := n3_; clear n0_ n1_ n2_ n3_; clear hb hbox hg))
                    have n0_ := Aside0.mk (blk_drew BK106.out)
                    have n1_ := Aside0.mk (below_drew1 HB.out)
                    clear BK106
                    clear HB
                    have BK106 := n0_
                    have HB := n1_
                    clear n0_ n1_
                    refine start_ (n := 23) (S := fun w' => w'.cell? ⟨gb106, 0, none⟩ = some (.int .i64 a0_0) ∧ w'.cell? ⟨gb106, 1, none⟩ = some (.int .i64 a0_1) ∧ w'.cell? ⟨gb106, 2, none⟩ = some (.int .i64 a0_2) ∧ w'.cell? ⟨gb106, 3, none⟩ = some (.int .i64 a0_3)) (ds := []) #[false, false, false, false, false, false, false, false, false, false, false, false, false, false, false, false, false, false, false, false, false, false, false] (by kernel_rfl) rfl rfl ⟨(blk_cell BK106.out 0).trans rfl, (blk_cell BK106.out 1).trans rfl, (blk_cell BK106.out 2).trans rfl, (blk_cell BK106.out 3).trans rfl⟩ (fun hHeld => ?_); refine with_tabW fileset_Key_file.tab1 fileset_Key_file.bits1 (fun HT_ HW_ => ?_)
                    generalize w16.drew = w17 at BK106 HB hHeld ⊢
                    refine pure_ (i := 0) (N := some 5) (v := ?_) (a' := ?_) #[true, false, false, false, false, false, false, false, false, false, false, false, false, false, false, false, false, false, false, false, false, false, false] rfl rfl (any_of HT_.out (by kernel_rfl)) (fun _ _ _ h => h) (Or.inl ⟨by rfl, ?_⟩) ?_ ?_
                    rotate_left
                    · intro w'
                      go_simp
                      with_reducible rfl
                    rotate_left
                    · simp only [Act.put, List.setIfInBounds_toArray, List.set_cons_zero, List.set_cons_succ, i64_w, i32_w]
                      rfl
                    refine pure_ (i := 5) (N := some 10) (v := ?_) (a' := ?_) #[true, false, false, false, false, true, false, false, false, false, false, false, false, false, false, false, false, false, false, false, false, false, false] rfl rfl (any_of HT_.out (by kernel_rfl)) (fun _ _ _ h => h) (Or.inl ⟨by rfl, ?_⟩) ?_ ?_
                    rotate_left
                    · intro w'
                      go_simp
                      with_reducible rfl
                    rotate_left
                    · simp only [Act.put, List.setIfInBounds_toArray, List.set_cons_zero, List.set_cons_succ, i64_w, i32_w]
                      rfl
                    refine pure_ (i := 10) (N := some 15) (v := ?_) (a' := ?_) #[true, false, false, false, false, true, false, false, false, false, true, false, false, false, false, false, false, false, false, false, false, false, false] rfl rfl (any_of HT_.out (by kernel_rfl)) (fun _ _ _ h => h) (Or.inl ⟨by rfl, ?_⟩) ?_ ?_
                    rotate_left
                    · intro w'
                      go_simp
                      with_reducible rfl
                    rotate_left
                    · simp only [Act.put, List.setIfInBounds_toArray, List.set_cons_zero, List.set_cons_succ, i64_w, i32_w]
                      rfl
                    refine pure_ (i := 15) (N := some 20) (v := ?_) (a' := ?_) #[true, false, false, false, false, true, false, false, false, false, true, false, false, false, false, true, false, false, false, false, false, false, false] rfl rfl (any_of HT_.out (by kernel_rfl)) (fun _ _ _ h => h) (Or.inl ⟨by rfl, ?_⟩) ?_ ?_
                    rotate_left
                    · intro w'
                      go_simp
                      with_reducible rfl
                    rotate_left
                    · simp only [Act.put, List.setIfInBounds_toArray, List.set_cons_zero, List.set_cons_succ, i64_w, i32_w]
                      rfl
                    refine pure_ (i := 20) (N := some 25) (v := ?_) (a' := ?_) #[true, false, false, false, false, true, false, false, false, false, true, false, false, false, false, true, false, false, false, false, true, false, false] rfl rfl (any_of HT_.out (by kernel_rfl)) (fun _ _ _ h => h) (Or.inl ⟨by rfl, ?_⟩) ?_ ?_
                    rotate_left
                    · intro w'
                      go_simp
                      with_reducible rfl
                    rotate_left
                    · simp only [Act.put, List.setIfInBounds_toArray, List.set_cons_zero, List.set_cons_succ, i64_w, i32_w]
                      rfl
                    refine take_ (i := 1) (N := some 6) (v := ?_) (a' := ?_) #[true, true, false, false, false, true, false, false, false, false, true, false, false, false, false, true, false, false, false, false, true, false, false] rfl rfl (take_ofW HT_.out HW_.out (by kernel_rfl)) (fun _ _ _ h => h) (Or.inl ⟨by rfl, ?_⟩) hHeld ?_ ?_
                    rotate_left
                    · rintro w' ⟨s0, s1, s2, s3⟩
                      go_simp
                      with_reducible rfl
                    rotate_left
                    · simp only [Act.put, List.setIfInBounds_toArray, List.set_cons_zero, List.set_cons_succ, i64_w, i32_w]
                      rfl
                    refine take_ (i := 6) (N := some 11) (v := ?_) (a' := ?_) #[true, true, false, false, false, true, true, false, false, false, true, false, false, false, false, true, false, false, false, false, true, false, false] rfl rfl (take_ofW HT_.out HW_.out (by kernel_rfl)) (fun _ _ _ h => h) (Or.inl ⟨by rfl, ?_⟩) hHeld ?_ ?_
                    rotate_left
                    · rintro w' ⟨s0, s1, s2, s3⟩
                      go_simp
                      with_reducible rfl
                    rotate_left
                    · simp only [Act.put, List.setIfInBounds_toArray, List.set_cons_zero, List.set_cons_succ, i64_w, i32_w]
                      rfl
                    refine take_ (i := 11) (N := some 16) (v := ?_) (a' := ?_) #[true, true, false, false, false, true, true, false, false, false, true, true, false, false, false, true, false, false, false, false, true, false, false] rfl rfl (take_ofW HT_.out HW_.out (by kernel_rfl)) (fun _ _ _ h => h) (Or.inl ⟨by rfl, ?_⟩) hHeld ?_ ?_
                    rotate_left
                    · rintro w' ⟨s0, s1, s2, s3⟩
                      go_simp
                      with_reducible rfl
                    rotate_left
                    · simp only [Act.put, List.setIfInBounds_toArray, List.set_cons_zero, List.set_cons_succ, i64_w, i32_w]
                      rfl
                    refine take_ (i := 16) (N := some 21) (v := ?_) (a' := ?_) #[true, true, false, false, false, true, true, false, false, false, true, true, false, false, false, true, true, false, false, false, true, false, false] rfl rfl (take_ofW HT_.out HW_.out (by kernel_rfl)) (fun _ _ _ h => h) (Or.inl ⟨by rfl, ?_⟩) hHeld ?_ ?_
                    rotate_left
                    · rintro w' ⟨s0, s1, s2, s3⟩
                      go_simp
                      with_reducible rfl
                    rotate_left
                    · simp only [Act.put, List.setIfInBounds_toArray, List.set_cons_zero, List.set_cons_succ, i64_w, i32_w]
                      rfl
                    refine one_ (i := 2) (N := some 7) #[true, true, true, false, false, true, true, false, false, false, true, true, false, false, false, true, true, false, false, false, true, false, false] rfl rfl (one_of HT_.out (by kernel_rfl)) (by decide) (fun K hK => ?_)
                    refine goes_ Tryd.func12 (by kernel_rfl) rfl #[.int .i64 a0_0] (by rfl) rfl rfl (by (try simp only [List.map_toArray, List.map_cons, List.map_nil]); first | done | rfl | (simp only [List.length_drop, List.length_take]; rfl)) ?_
                    with_reducible refine (strconv_Itoa.calls a0_0 t107 _ ?side1 A3.out).mono ?_
                    (case side1 => exact Glob.mono HG.out (by repeat (first | (with_reducible first | exact HB.out | apply below_alloc | apply pw_below_drewN | apply below_drew1 | refine below_set ?_ GE106.out) | exact HB.out)))
                    rintro e w18 ⟨rfl, hb⟩
                    refine ⟨_, rfl, ?_⟩
                    have n0_ := Aside0.mk (blk_below (g := gb106) (o := .cells #[.int .i64 a0_0, .int .i64 a0_1, .int .i64 a0_2, .int .i64 a0_3] 23 (0, 0)) (by (with_reducible repeat (first | refine blk_drewN ?_ _ | refine blk_drew ?_ | refine blk_alloc ?_ _)); exact BK106.out) hb)
                    have n1_ := Aside0.mk (below_step (by repeat (first | (with_reducible first | exact HB.out | apply below_alloc | apply pw_below_drewN | apply below_drew1 | refine below_set ?_ GE106.out) | exact HB.out)) hb)
                    clear BK106
                    clear HB
                    have BK106 := n0_
                    have HB := n1_
                    clear n0_ n1_
                    (try clear hb)
                    (try clear hb2)
                    (try clear hk)
                    (try clear hi)
                    refine hK.out _ _ ⟨(blk_cell BK106.out 0).trans rfl, (blk_cell BK106.out 1).trans rfl, (blk_cell BK106.out 2).trans rfl, (blk_cell BK106.out 3).trans rfl⟩ (fun hHeld => ?_)
                    clear hK K
                    refine norm_ (a' := ?_) ?_ ?_
                    rotate_left
                    · show Act.put _ (some 7) _ = _
                      simp only [Act.put, List.setIfInBounds_toArray, List.set_cons_zero, List.set_cons_succ, i64_w, i32_w]
                      rfl
                    refine pure_ (i := 3) (N := some 8) (v := ?_) (a' := ?_) #[true, true, true, true, false, true, true, false, false, false, true, true, false, false, false, true, true, false, false, false, true, false, false] rfl rfl (any_of HT_.out (by kernel_rfl)) (fun _ _ _ h => h) (Or.inl ⟨by rfl, ?_⟩) ?_ ?_
                    rotate_left
                    · intro w'
                      go_simp
                      with_reducible rfl
                    rotate_left
                    · simp only [Act.put, List.setIfInBounds_toArray, List.set_cons_zero, List.set_cons_succ, i64_w, i32_w]
                      rfl
                    refine pure_ (i := 4) (N := some 9) (v := ?_) (a' := ?_) #[true, true, true, true, true, true, true, false, false, false, true, true, false, false, false, true, true, false, false, false, true, false, false] rfl rfl (any_of HT_.out (by kernel_rfl)) (fun _ _ _ h => h) (Or.inl ⟨by rfl, ?_⟩) ?_ ?_
                    rotate_left
                    · intro w'
                      go_simp
                      with_reducible rfl
                    rotate_left
                    · simp only [Act.put, List.setIfInBounds_toArray, List.set_cons_zero, List.set_cons_succ, i64_w, i32_w]
                      rfl
                    refine one_ (i := 7) (N := some 12) #[true, true, true, true, true, true, true, true, false, false, true, true, false, false, false, true, true, false, false, false, true, false, false] rfl rfl (one_of HT_.out (by kernel_rfl)) (by decide) (fun K hK => ?_)
                    refine goes_ Tryd.func12 (by kernel_rfl) rfl #[.int .i64 a0_1] (by rfl) rfl rfl (by (try simp only [List.map_toArray, List.map_cons, List.map_nil]); first | done | rfl | (simp only [List.length_drop, List.length_take]; rfl)) ?_
                    with_reducible refine (strconv_Itoa.calls a0_1 t108 _ ?side1 A6.out).mono ?_
                    (case side1 => exact Glob.mono HG.out (by repeat (first | (with_reducible first | exact HB.out | apply below_alloc | apply pw_below_drewN | apply below_drew1 | refine below_set ?_ GE106.out) | exact HB.out)))
                    rintro e w19 ⟨rfl, hb⟩
                    refine ⟨_, rfl, ?_⟩
                    have n0_ := Aside0.mk (blk_below (g := gb106) (o := .cells #[.int .i64 a0_0, .int .i64 a0_1, .int .i64 a0_2, .int .i64 a0_3] 23 (0, 0)) (by (with_reducible repeat (first | refine blk_drewN ?_ _ | refine blk_drew ?_ | refine blk_alloc ?_ _)); exact BK106.out) hb)
                    have n1_ := Aside0.mk (below_step (by repeat (first | (with_reducible first | exact HB.out | apply below_alloc | apply pw_below_drewN | apply below_drew1 | refine below_set ?_ GE106.out) | exact HB.out)) hb)
                    clear BK106
                    clear HB
                    have BK106 := n0_
                    have HB := n1_
                    clear n0_ n1_
                    (try clear hb)
                    (try clear hb2)
                    (try clear hk)
                    (try clear hi)
                    refine hK.out _ _ ⟨(blk_cell BK106.out 0).trans rfl, (blk_cell BK106.out 1).trans rfl, (blk_cell BK106.out 2).trans rfl, (blk_cell BK106.out 3).trans rfl⟩ (fun hHeld => ?_)
                    clear hK K
                    refine norm_ (a' := ?_) ?_ ?_
                    rotate_left
                    · show Act.put _ (some 12) _ = _
                      simp only [Act.put, List.setIfInBounds_toArray, List.set_cons_zero, List.set_cons_succ, i64_w, i32_w]
                      rfl
                    refine pure_ (i := 8) (N := some 13) (v := ?_) (a' := ?_) #[true, true, true, true, true, true, true, true, true, false, true, true, false, false, false, true, true, false, false, false, true, false, false] rfl rfl (any_of HT_.out (by kernel_rfl)) (fun _ _ _ h => h) (Or.inl ⟨by rfl, ?_⟩) ?_ ?_
                    rotate_left
                    · intro w'
                      go_simp
                      with_reducible rfl
                    rotate_left
                    · simp only [Act.put, List.setIfInBounds_toArray, List.set_cons_zero, List.set_cons_succ, i64_w, i32_w]
                      rfl
                    refine pure_ (i := 9) (N := some 14) (v := ?_) (a' := ?_) #[true, true, true, true, true, true, true, true, true, true, true, true, false, false, false, true, true, false, false, false, true, false, false] rfl rfl (any_of HT_.out (by kernel_rfl)) (fun _ _ _ h => h) (Or.inl ⟨by rfl, ?_⟩) ?_ ?_
                    rotate_left
                    · intro w'
                      go_simp
                      with_reducible rfl
                    rotate_left
                    · simp only [Act.put, List.setIfInBounds_toArray, List.set_cons_zero, List.set_cons_succ, i64_w, i32_w]
                      rfl
                    refine one_ (i := 12) (N := some 17) #[true, true, true, true, true, true, true, true, true, true, true, true, true, false, false, true, true, false, false, false, true, false, false] rfl rfl (one_of HT_.out (by kernel_rfl)) (by decide) (fun K hK => ?_)
                    refine goes_ Tryd.func12 (by kernel_rfl) rfl #[.int .i64 a0_2] (by rfl) rfl rfl (by (try simp only [List.map_toArray, List.map_cons, List.map_nil]); first | done | rfl | (simp only [List.length_drop, List.length_take]; rfl)) ?_
                    with_reducible refine (strconv_Itoa.calls a0_2 t109 _ ?side1 A9.out).mono ?_
                    (case side1 => exact Glob.mono HG.out (by repeat (first | (with_reducible first | exact HB.out | apply below_alloc | apply pw_below_drewN | apply below_drew1 | refine below_set ?_ GE106.out) | exact HB.out)))
                    rintro e w20 ⟨rfl, hb⟩
                    refine ⟨_, rfl, ?_⟩
                    have n0_ := Aside0.mk (blk_below (g := gb106) (o := .cells #[.int .i64 a0_0, .int .i64 a0_1, .int .i64 a0_2, .int .i64 a0_3] 23 (0, 0)) (by (with_reducible repeat (first | refine blk_drewN ?_ _ | refine blk_drew ?_ | refine blk_alloc ?_ _)); exact BK106.out) hb)
                    have n1_ := Aside0.mk (below_step (by repeat (first | (with_reducible first | exact HB.out | apply below_alloc | apply pw_below_drewN | apply below_drew1 | refine below_set ?_ GE106.out) | exact HB.out)) hb)
                    clear BK106
                    clear HB
                    have BK106 := n0_
                    have HB := n1_
                    clear n0_ n1_
                    (try clear hb)
                    (try clear hb2)
                    (try clear hk)
                    (try clear hi)
                    refine hK.out _ _ ⟨(blk_cell BK106.out 0).trans rfl, (blk_cell BK106.out 1).trans rfl, (blk_cell BK106.out 2).trans rfl, (blk_cell BK106.out 3).trans rfl⟩ (fun hHeld => ?_)
                    clear hK K
                    refine norm_ (a' := ?_) ?_ ?_
                    rotate_left
                    · show Act.put _ (some 17) _ = _
                      simp only [Act.put, List.setIfInBounds_toArray, List.set_cons_zero, List.set_cons_succ, i64_w, i32_w]
                      rfl
                    refine pure_ (i := 13) (N := some 18) (v := ?_) (a' := ?_) #[true, true, true, true, true, true, true, true, true, true, true, true, true, true, false, true, true, false, false, false, true, false, false] rfl rfl (any_of HT_.out (by kernel_rfl)) (fun _ _ _ h => h) (Or.inl ⟨by rfl, ?_⟩) ?_ ?_
                    rotate_left
                    · intro w'
                      go_simp
                      with_reducible rfl
                    rotate_left
                    · simp only [Act.put, List.setIfInBounds_toArray, List.set_cons_zero, List.set_cons_succ, i64_w, i32_w]
                      rfl
                    refine pure_ (i := 14) (N := some 19) (v := ?_) (a' := ?_) #[true, true, true, true, true, true, true, true, true, true, true, true, true, true, true, true, true, false, false, false, true, false, false] rfl rfl (any_of HT_.out (by kernel_rfl)) (fun _ _ _ h => h) (Or.inl ⟨by rfl, ?_⟩) ?_ ?_
                    rotate_left
                    · intro w'
                      go_simp
                      with_reducible rfl
                    rotate_left
                    · simp only [Act.put, List.setIfInBounds_toArray, List.set_cons_zero, List.set_cons_succ, i64_w, i32_w]
                      rfl
                    refine one_ (i := 17) (N := some 22) #[true, true, true, true, true, true, true, true, true, true, true, true, true, true, true, true, true, true, false, false, true, false, false] rfl rfl (one_of HT_.out (by kernel_rfl)) (by decide) (fun K hK => ?_)
                    refine goes_ Tryd.func12 (by kernel_rfl) rfl #[.int .i64 a0_3] (by rfl) rfl rfl (by (try simp only [List.map_toArray, List.map_cons, List.map_nil]); first | done | rfl | (simp only [List.length_drop, List.length_take]; rfl)) ?_
                    with_reducible refine (strconv_Itoa.calls a0_3 t110 _ ?side1 A12.out).mono ?_
                    (case side1 => exact Glob.mono HG.out (by repeat (first | (with_reducible first | exact HB.out | apply below_alloc | apply pw_below_drewN | apply below_drew1 | refine below_set ?_ GE106.out) | exact HB.out)))
                    rintro e w21 ⟨rfl, hb⟩
                    refine ⟨_, rfl, ?_⟩
                    have n0_ := Aside0.mk (blk_below (g := gb106) (o := .cells #[.int .i64 a0_0, .int .i64 a0_1, .int .i64 a0_2, .int .i64 a0_3] 23 (0, 0)) (by (with_reducible repeat (first | refine blk_drewN ?_ _ | refine blk_drew ?_ | refine blk_alloc ?_ _)); exact BK106.out) hb)
                    have n1_ := Aside0.mk (below_step (by repeat (first | (with_reducible first | exact HB.out | apply below_alloc | apply pw_below_drewN | apply below_drew1 | refine below_set ?_ GE106.out) | exact HB.out)) hb)
                    clear BK106
                    clear HB
                    have BK106 := n0_
                    have HB := n1_
                    clear n0_ n1_
                    (try clear hb)
                    (try clear hb2)
                    (try clear hk)
                    (try clear hi)
                    refine hK.out _ _ ⟨(blk_cell BK106.out 0).trans rfl, (blk_cell BK106.out 1).trans rfl, (blk_cell BK106.out 2).trans rfl, (blk_cell BK106.out 3).trans rfl⟩ (fun hHeld => ?_)
                    clear hK K
                    refine norm_ (a' := ?_) ?_ ?_
                    rotate_left
                    · show Act.put _ (some 22) _ = _
                      simp only [Act.put, List.setIfInBounds_toArray, List.set_cons_zero, List.set_cons_succ, i64_w, i32_w]
                      rfl
                    refine pure_ (i := 18) (N := some 23) (v := ?_) (a' := ?_) #[true, true, true, true, true, true, true, true, true, true, true, true, true, true, true, true, true, true, true, false, true, false, false] rfl rfl (any_of HT_.out (by kernel_rfl)) (fun _ _ _ h => h) (Or.inl ⟨by rfl, ?_⟩) ?_ ?_
                    rotate_left
                    · intro w'
                      go_simp
                      with_reducible rfl
                    rotate_left
                    · simp only [Act.put, List.setIfInBounds_toArray, List.set_cons_zero, List.set_cons_succ, i64_w, i32_w]
                      rfl
                    refine pure_ (i := 19) (N := some 24) (v := ?_) (a' := ?_) #[true, true, true, true, true, true, true, true, true, true, true, true, true, true, true, true, true, true, true, true, true, false, false] rfl rfl (any_of HT_.out (by kernel_rfl)) (fun _ _ _ h => h) (Or.inl ⟨by rfl, ?_⟩) ?_ ?_
                    rotate_left
                    · intro w'
                      go_simp
                      with_reducible rfl
                    rotate_left
                    · simp only [Act.put, List.setIfInBounds_toArray, List.set_cons_zero, List.set_cons_succ, i64_w, i32_w]
                      rfl
                    refine pure_ (i := 21) (N := some 26) (v := ?_) (a' := ?_) #[true, true, true, true, true, true, true, true, true, true, true, true, true, true, true, true, true, true, true, true, true, true, false] rfl rfl (any_of HT_.out (by kernel_rfl)) (fun _ _ _ h => h) (Or.inl ⟨by rfl, ?_⟩) ?_ ?_
                    rotate_left
                    · intro w'
                      go_simp
                      with_reducible rfl
                    rotate_left
                    · simp only [Act.put, List.setIfInBounds_toArray, List.set_cons_zero, List.set_cons_succ, i64_w, i32_w]
                      rfl
                    refine pure_ (i := 22) (N := some 4) (v := ?_) (a' := ?_) #[true, true, true, true, true, true, true, true, true, true, true, true, true, true, true, true, true, true, true, true, true, true, true] rfl rfl (any_of HT_.out (by kernel_rfl)) (fun _ _ _ h => h) (Or.inl ⟨by rfl, ?_⟩) ?_ ?_
                    rotate_left
                    · intro w'
                      go_simp
                      with_reducible rfl
                    rotate_left
                    · simp only [Act.put, List.setIfInBounds_toArray, List.set_cons_zero, List.set_cons_succ, i64_w, i32_w]
                      rfl
                    refine done_ (done_of HT_.out (by kernel_rfl)) ?_
                    try go_wp2
                    go_ret
                    exact ⟨by first | rfl | (simp [errW_none, errW_some] <;> rfl) | (simp [*, errW_none, errW_some] <;> rfl), by repeat (first | (with_reducible first | exact HB.out | apply below_alloc | apply pw_below_drewN | apply below_drew1 | refine below_set ?_ GE106.out) | exact HB.out)⟩
                  · rw [if_neg c15] at H
                    exact absurd H (by simp)
                · rw [if_neg c14] at H
                  exact absurd H (by simp)
              · rw [if_neg c13] at H
                exact absurd H (by simp)
            · rw [if_neg c11] at H
              exact absurd H (by simp)
          · rw [if_neg c10] at H
            exact absurd H (by simp)
        · rw [if_neg c8] at H
          exact absurd H (by simp)
      · rw [if_neg c7] at H
        exact absurd H (by simp)
    · rw [if_neg c5] at H
      exact absurd H (by simp)
  · rw [if_neg c4] at H
    exact absurd H (by simp)

-- NOT PRINTED: function 4 (fileset_Name)

/-! ### thermographref10_Parts: function 8 -/
def thermographref10_Parts.f  : Option (List ByteArray) := some (([(⟨#[105, 110, 102, 111]⟩ : ByteArray), (⟨#[105, 110, 100, 101, 120]⟩ : ByteArray), (⟨#[115, 117, 109, 109, 97, 114, 121]⟩ : ByteArray), (⟨#[98, 108, 111, 111, 109]⟩ : ByteArray), (⟨#[100, 97, 116, 97]⟩ : ByteArray), (⟨#[100, 105, 103, 101, 115, 116]⟩ : ByteArray), (⟨#[99, 104, 101, 99, 107]⟩ : ByteArray)] : List ByteArray))
set_option maxHeartbeats 8000000 in
set_option maxRecDepth 100000 in
theorem thermographref10_Parts.calls  (r : List ByteArray) (w : World) (h : thermographref10_Parts.f  = some r) :
    Calls Tryd.prog 8 #[] w fun e w' => ∃ v0_ : Value, e = .returned (v0_) ∧ Kd.R Kd.string 9 w' w.heap.size (fun _ => True) v0_ r ∧ Below w.heap.size w w' := by
  have HB := Aside0.mk (Below.refl w.heap.size w)
  have H : (some (([(⟨#[105, 110, 102, 111]⟩ : ByteArray), (⟨#[105, 110, 100, 101, 120]⟩ : ByteArray), (⟨#[115, 117, 109, 109, 97, 114, 121]⟩ : ByteArray), (⟨#[98, 108, 111, 111, 109]⟩ : ByteArray), (⟨#[100, 97, 116, 97]⟩ : ByteArray), (⟨#[100, 105, 103, 101, 115, 116]⟩ : ByteArray), (⟨#[99, 104, 101, 99, 107]⟩ : ByteArray)] : List ByteArray))) = some r := h
  clear h
  obtain ⟨y112, hy112⟩ : ∃ y_ : List ByteArray, y_ = (([(⟨#[105, 110, 102, 111]⟩ : ByteArray), (⟨#[105, 110, 100, 101, 120]⟩ : ByteArray), (⟨#[115, 117, 109, 109, 97, 114, 121]⟩ : ByteArray), (⟨#[98, 108, 111, 111, 109]⟩ : ByteArray), (⟨#[100, 97, 116, 97]⟩ : ByteArray), (⟨#[100, 105, 103, 101, 115, 116]⟩ : ByteArray), (⟨#[99, 104, 101, 99, 107]⟩ : ByteArray)] : List ByteArray)) := ⟨_, rfl⟩
  replace H : (some y112) = some r := by first | (rw [hy112]; with_reducible exact H) | (have H2_ := (Option.bind_some _ _).symm.trans H; rw [hy112]; with_reducible exact H2_) | (have H2_ := (Option.bind_some _ _).symm.trans H; with_reducible exact H2_) | with_reducible exact H | (rw [hy112]; exact H) | exact H
  have Ny112 := Aside0.mk hy112
  clear hy112
  obtain rfl := Option.some.inj H
  go_enter Tryd.func8, Tryd.ntmps8
  go_wp2_with (first | ((with_reducible refine gate_dst (N := 1) rfl ?_); refine Kd.R_lit Kd.string _ 9 ?hg (N := 1) ?hd (xs := ([(⟨#[105, 110, 102, 111]⟩ : ByteArray), (⟨#[105, 110, 100, 101, 120]⟩ : ByteArray), (⟨#[115, 117, 109, 109, 97, 114, 121]⟩ : ByteArray), (⟨#[98, 108, 111, 111, 109]⟩ : ByteArray), (⟨#[100, 97, 116, 97]⟩ : ByteArray), (⟨#[100, 105, 103, 101, 115, 116]⟩ : ByteArray), (⟨#[99, 104, 101, 99, 107]⟩ : ByteArray)] : List ByteArray)) (inner := [.string (⟨#[105, 110, 102, 111]⟩ : ByteArray), .string (⟨#[105, 110, 100, 101, 120]⟩ : ByteArray), .string (⟨#[115, 117, 109, 109, 97, 114, 121]⟩ : ByteArray), .string (⟨#[98, 108, 111, 111, 109]⟩ : ByteArray), .string (⟨#[100, 97, 116, 97]⟩ : ByteArray), .string (⟨#[100, 105, 103, 101, 115, 116]⟩ : ByteArray), .string (⟨#[99, 104, 101, 99, 107]⟩ : ByteArray)]) (ok := fun _ => True) (okp := fun _ => True) ?hr ?hp (fun _ hk => hk) trivial (Below.refl _ _) (Nat.le_refl _) (by simp) ?_; (case hd => rfl); (case hg => rfl); (case hr => first | (go_simp; done) | (go_simp; rfl)); (case hp => exact (Reps.one (show Kd.M Kd.string _ _ _ (⟨#[105, 110, 102, 111]⟩ : ByteArray) [.string (⟨#[105, 110, 102, 111]⟩ : ByteArray)] from rfl) (Reps.one (show Kd.M Kd.string _ _ _ (⟨#[105, 110, 100, 101, 120]⟩ : ByteArray) [.string (⟨#[105, 110, 100, 101, 120]⟩ : ByteArray)] from rfl) (Reps.one (show Kd.M Kd.string _ _ _ (⟨#[115, 117, 109, 109, 97, 114, 121]⟩ : ByteArray) [.string (⟨#[115, 117, 109, 109, 97, 114, 121]⟩ : ByteArray)] from rfl) (Reps.one (show Kd.M Kd.string _ _ _ (⟨#[98, 108, 111, 111, 109]⟩ : ByteArray) [.string (⟨#[98, 108, 111, 111, 109]⟩ : ByteArray)] from rfl) (Reps.one (show Kd.M Kd.string _ _ _ (⟨#[100, 97, 116, 97]⟩ : ByteArray) [.string (⟨#[100, 97, 116, 97]⟩ : ByteArray)] from rfl) (Reps.one (show Kd.M Kd.string _ _ _ (⟨#[100, 105, 103, 101, 115, 116]⟩ : ByteArray) [.string (⟨#[100, 105, 103, 101, 115, 116]⟩ : ByteArray)] from rfl) (Reps.one (show Kd.M Kd.string _ _ _ (⟨#[99, 104, 101, 99, 107]⟩ : ByteArray) [.string (⟨#[99, 104, 101, 99, 107]⟩ : ByteArray)] from rfl) (Reps.none _ _))))))))); intro v113 w1 ho2 hb hg_ hnew_; clear hg_ hnew_; (first | rw [← Ny112.out] at ho2 | (simp only [Int.reduceToNat] at ho2; rw [← Ny112.out] at ho2)); have n0_ := Aside0.mk (Kd.R_lower ho2 (below_size (by repeat (first | (with_reducible first | exact HB.out | apply below_alloc | apply pw_below_drewN | apply below_drew1) | exact HB.out)))); have n1_ := Aside0.mk (below_step (by repeat (first | (with_reducible first | exact HB.out | apply below_alloc | apply pw_below_drewN | apply below_drew1) | exact HB.out)) hb); clear HB; have HO114 := n0_; have HB := n1_; clear n0_ n1_; clear hb ho2))
  go_ret
  exact ⟨_, by first | rfl | (simp [errW_none, errW_some] <;> rfl) | (simp [*, errW_none, errW_some] <;> rfl), by (with_reducible repeat (first | apply Kd.R_alloc | apply Kd.R_drewN | apply Kd.R_drew)); exact HO114.out, by repeat (first | (with_reducible first | exact HB.out | apply below_alloc | apply pw_below_drewN | apply below_drew1) | exact HB.out)⟩

/-! ### thermographref10_within: function 13 -/
def thermographref10_within.f (a0 : Int) (a1 : Int) (a2 : Int) : Option (Bool) := if a0 ≥ a1 then (some (decide (a0 ≤ a2))) else (some false)
set_option maxHeartbeats 8000000 in
set_option maxRecDepth 100000 in
theorem thermographref10_within.calls (a0 : Int) (a1 : Int) (a2 : Int) (r : Bool) (w : World) (h : thermographref10_within.f a0 a1 a2 = some r) :
    Calls Tryd.prog 13 #[.int .i64 a0, .int .i64 a1, .int .i64 a2] w fun e w' => e = .returned (.bool r) ∧ Drawn0 w w' := by
  have H : (if a0 ≥ a1 then (some (decide (a0 ≤ a2))) else (some false)) = some r := h
  clear h
  by_cases c4 : a0 ≥ a1
  · rw [if_pos c4] at H
    have c4b0 : decide (a1 ≤ a0) = true := decide_eq_true c4
    clear c4
    obtain rfl := Option.some.inj H
    go_enter Tryd.func13, Tryd.ntmps13
    go_wp2
    go_ret
    exact ⟨by first | rfl | (simp; done) | (simp [*]; done), by repeat (first | exact Drawn0.refl _ | apply Drawn0.step)⟩
  · rw [if_neg c4] at H
    have c4b0 : decide (a1 ≤ a0) = false := decide_eq_false c4
    clear c4
    obtain rfl := Option.some.inj H
    go_enter Tryd.func13, Tryd.ntmps13
    go_wp2
    go_ret
    exact ⟨by first | rfl | (simp; done) | (simp [*]; done), by repeat (first | exact Drawn0.refl _ | apply Drawn0.step)⟩

/-! ### thermographref10_may: function 9 -/
def thermographref10_may.f (a0_0 : Int) (a0_1 : Int) (a0_2 : Int) (a0_3 : Int) : Option (Bool) := (thermographref10_within.f a0_0 0 3).bind fun t116 => (if t116 = true then ((thermographref10_within.f a0_1 0 7).bind fun t117 => (if t117 = true then ((thermographref10_within.f a0_2 0 1099511627776).bind fun t118 => (if t118 = true then ((thermographref10_within.f a0_3 1 999999).bind fun t119 => (some t119)) else (some false))) else (some false))) else (some false))
set_option maxHeartbeats 8000000 in
set_option maxRecDepth 100000 in
theorem thermographref10_may.calls (a0_0 : Int) (a0_1 : Int) (a0_2 : Int) (a0_3 : Int) (r : Bool) (w : World) (h : thermographref10_may.f a0_0 a0_1 a0_2 a0_3 = some r) :
    Calls Tryd.prog 9 #[.agg #[.int .i64 a0_0, .int .i64 a0_1, .int .i64 a0_2, .int .i64 a0_3]] w fun e w' => e = .returned (.bool r) ∧ Below w.heap.size w w' := by
  have hu28 := Tryd.underlying28
  have HB := Aside0.mk (Below.refl w.heap.size w)
  have H : ((thermographref10_within.f a0_0 0 3).bind fun t116 => (if t116 = true then ((thermographref10_within.f a0_1 0 7).bind fun t117 => (if t117 = true then ((thermographref10_within.f a0_2 0 1099511627776).bind fun t118 => (if t118 = true then ((thermographref10_within.f a0_3 1 999999).bind fun t119 => (some t119)) else (some false))) else (some false))) else (some false))) = some r := h
  clear h
  replace H := Option.bind_eq_some_iff.mp H
  obtain ⟨t116, A20, H⟩ := H
  replace H : (if t116 = true then ((thermographref10_within.f a0_1 0 7).bind fun t117 => (if t117 = true then ((thermographref10_within.f a0_2 0 1099511627776).bind fun t118 => (if t118 = true then ((thermographref10_within.f a0_3 1 999999).bind fun t119 => (some t119)) else (some false))) else (some false))) else (some false)) = some r := H
  have A2 := Aside0.mk A20
  clear A20
  by_cases c3 : t116 = true
  · subst c3
    have H1 : ((thermographref10_within.f a0_1 0 7).bind fun t117 => (if t117 = true then ((thermographref10_within.f a0_2 0 1099511627776).bind fun t118 => (if t118 = true then ((thermographref10_within.f a0_3 1 999999).bind fun t119 => (some t119)) else (some false))) else (some false))) = some r := by rw [if_pos rfl] at H; exact H
    clear H
    have H := H1
    clear H1
    replace H := Option.bind_eq_some_iff.mp H
    obtain ⟨t117, A40, H⟩ := H
    replace H : (if t117 = true then ((thermographref10_within.f a0_2 0 1099511627776).bind fun t118 => (if t118 = true then ((thermographref10_within.f a0_3 1 999999).bind fun t119 => (some t119)) else (some false))) else (some false)) = some r := H
    have A4 := Aside0.mk A40
    clear A40
    by_cases c5 : t117 = true
    · subst c5
      have H1 : ((thermographref10_within.f a0_2 0 1099511627776).bind fun t118 => (if t118 = true then ((thermographref10_within.f a0_3 1 999999).bind fun t119 => (some t119)) else (some false))) = some r := by rw [if_pos rfl] at H; exact H
      clear H
      have H := H1
      clear H1
      replace H := Option.bind_eq_some_iff.mp H
      obtain ⟨t118, A60, H⟩ := H
      replace H : (if t118 = true then ((thermographref10_within.f a0_3 1 999999).bind fun t119 => (some t119)) else (some false)) = some r := H
      have A6 := Aside0.mk A60
      clear A60
      by_cases c7 : t118 = true
      · subst c7
        have H1 : ((thermographref10_within.f a0_3 1 999999).bind fun t119 => (some t119)) = some r := by rw [if_pos rfl] at H; exact H
        clear H
        have H := H1
        clear H1
        replace H := Option.bind_eq_some_iff.mp H
        obtain ⟨t119, A80, H⟩ := H
        replace H : (some t119) = some r := H
        have A8 := Aside0.mk A80
        clear A80
        obtain rfl := Option.some.inj H
        go_enter Tryd.func9, Tryd.ntmps9
        go_wp2_with (first | ((with_reducible refine gate_dst (N := 1) rfl ?_); refine box_event ?hg (N := 1) ?hd (cs := #[.int .i64 a0_0, .int .i64 a0_1, .int .i64 a0_2, .int .i64 a0_3]) (t := 28) ?hr ?_; (case hd => rfl); (case hg => rfl); (case hr => first | (go_simp; done) | (go_simp; rfl)); intro gb115 hg w9 hbox hb; have n0_ := Aside0.mk (below_step (by repeat (first | (with_reducible first | exact HB.out | apply below_alloc | apply pw_below_drewN | apply below_drew1) | exact HB.out)) hb); have n1_ := Aside0.mk (hbox); have n2_ := Aside0.mk ((by rw [hg]; exact (below_size (by repeat (first | (with_reducible first | exact HB.out | apply below_alloc | apply pw_below_drewN | apply below_drew1) | exact HB.out))) : w.heap.size ≤ gb115)); have n3_ := Aside0.mk ((by rw [hg]; exact (below_size (by repeat (first | (with_reducible first | exact HB.out | apply below_alloc | apply pw_below_drewN | apply below_drew1) | exact HB.out))) : w.heap.size ≤ gb115)); clear HB; have HB := n0_; have BK115 := n1_; have GW115 := n2_; have GE115 := n3_; clear n0_ n1_ n2_ n3_; clear hb hbox hg; have hcz10_0 : w9.cell? ⟨gb115, 0, none⟩ = some (.int .i64 a0_0) := (blk_cell BK115.out 0).trans rfl; have hcz10_1 : w9.cell? ⟨gb115, 1, none⟩ = some (.int .i64 a0_1) := (blk_cell BK115.out 1).trans rfl; have hcz10_2 : w9.cell? ⟨gb115, 2, none⟩ = some (.int .i64 a0_2) := (blk_cell BK115.out 2).trans rfl; have hcz10_3 : w9.cell? ⟨gb115, 3, none⟩ = some (.int .i64 a0_3) := (blk_cell BK115.out 3).trans rfl; have hfz10_0 := blk_frozen BK115.out 0; have hfz10_1 := blk_frozen BK115.out 1; have hfz10_2 := blk_frozen BK115.out 2; have hfz10_3 := blk_frozen BK115.out 3) | ((with_reducible refine gate_callee (f := 13) rfl ?_); refine goesL_ (some 5) rfl rfl Tryd.func13 (by kernel_rfl) rfl #[.int .i64 a0_0, .int .i64 0, .int .i64 3] rfl (by (try simp only [List.map_toArray, List.map_cons, List.map_nil]); first | done | rfl | (simp only [List.length_drop, List.length_take]; rfl)) ?_; (with_reducible refine (thermographref10_within.calls a0_0 0 3 true _ A2.out).mono ?_); rintro e w' ⟨rfl, ⟨nd, rfl⟩⟩; refine ⟨_, rfl, ?_⟩) | (go_at_call 13; (with_reducible refine (thermographref10_within.calls a0_1 0 7 true _ A4.out).mono ?_); rintro e w' ⟨rfl, ⟨nd, rfl⟩⟩) | (go_at_call 13; (with_reducible refine (thermographref10_within.calls a0_2 0 1099511627776 true _ A6.out).mono ?_); rintro e w' ⟨rfl, ⟨nd, rfl⟩⟩) | (go_at_call 13; (with_reducible refine (thermographref10_within.calls a0_3 1 999999 t119 _ A8.out).mono ?_); rintro e w' ⟨rfl, ⟨nd, rfl⟩⟩))
        go_ret
        exact ⟨by first | rfl | (simp [errW_none, errW_some] <;> rfl) | (simp [*, errW_none, errW_some] <;> rfl), by repeat (first | (with_reducible first | exact HB.out | apply below_alloc | apply pw_below_drewN | apply below_drew1 | refine below_set ?_ GE115.out) | exact HB.out)⟩
      · replace c7 := Bool.eq_false_iff.mpr c7
        subst c7
        have H1 : (some false) = some r := by rw [if_neg (show ¬ (false = true) by decide)] at H; exact H
        clear H
        have H := H1
        clear H1
        obtain rfl := Option.some.inj H
        go_enter Tryd.func9, Tryd.ntmps9
        go_wp2_with (first | ((with_reducible refine gate_dst (N := 1) rfl ?_); refine box_event ?hg (N := 1) ?hd (cs := #[.int .i64 a0_0, .int .i64 a0_1, .int .i64 a0_2, .int .i64 a0_3]) (t := 28) ?hr ?_; (case hd => rfl); (case hg => rfl); (case hr => first | (go_simp; done) | (go_simp; rfl)); intro gb115 hg w11 hbox hb; have n0_ := Aside0.mk (below_step (by repeat (first | (with_reducible first | exact HB.out | apply below_alloc | apply pw_below_drewN | apply below_drew1) | exact HB.out)) hb); have n1_ := Aside0.mk (hbox); have n2_ := Aside0.mk ((by rw [hg]; exact (below_size (by repeat (first | (with_reducible first | exact HB.out | apply below_alloc | apply pw_below_drewN | apply below_drew1) | exact HB.out))) : w.heap.size ≤ gb115)); have n3_ := Aside0.mk ((by rw [hg]; exact (below_size (by repeat (first | (with_reducible first | exact HB.out | apply below_alloc | apply pw_below_drewN | apply below_drew1) | exact HB.out))) : w.heap.size ≤ gb115)); clear HB; have HB := n0_; have BK115 := n1_; have GW115 := n2_; have GE115 := n3_; clear n0_ n1_ n2_ n3_; clear hb hbox hg; have hcz12_0 : w11.cell? ⟨gb115, 0, none⟩ = some (.int .i64 a0_0) := (blk_cell BK115.out 0).trans rfl; have hcz12_1 : w11.cell? ⟨gb115, 1, none⟩ = some (.int .i64 a0_1) := (blk_cell BK115.out 1).trans rfl; have hcz12_2 : w11.cell? ⟨gb115, 2, none⟩ = some (.int .i64 a0_2) := (blk_cell BK115.out 2).trans rfl; have hcz12_3 : w11.cell? ⟨gb115, 3, none⟩ = some (.int .i64 a0_3) := (blk_cell BK115.out 3).trans rfl; have hfz12_0 := blk_frozen BK115.out 0; have hfz12_1 := blk_frozen BK115.out 1; have hfz12_2 := blk_frozen BK115.out 2; have hfz12_3 := blk_frozen BK115.out 3) | ((with_reducible refine gate_callee (f := 13) rfl ?_); refine goesL_ (some 5) rfl rfl Tryd.func13 (by kernel_rfl) rfl #[.int .i64 a0_0, .int .i64 0, .int .i64 3] rfl (by (try simp only [List.map_toArray, List.map_cons, List.map_nil]); first | done | rfl | (simp only [List.length_drop, List.length_take]; rfl)) ?_; (with_reducible refine (thermographref10_within.calls a0_0 0 3 true _ A2.out).mono ?_); rintro e w' ⟨rfl, ⟨nd, rfl⟩⟩; refine ⟨_, rfl, ?_⟩) | (go_at_call 13; (with_reducible refine (thermographref10_within.calls a0_1 0 7 true _ A4.out).mono ?_); rintro e w' ⟨rfl, ⟨nd, rfl⟩⟩) | (go_at_call 13; (with_reducible refine (thermographref10_within.calls a0_2 0 1099511627776 false _ A6.out).mono ?_); rintro e w' ⟨rfl, ⟨nd, rfl⟩⟩))
        go_ret
        exact ⟨by first | rfl | (simp [errW_none, errW_some] <;> rfl) | (simp [*, errW_none, errW_some] <;> rfl), by repeat (first | (with_reducible first | exact HB.out | apply below_alloc | apply pw_below_drewN | apply below_drew1 | refine below_set ?_ GE115.out) | exact HB.out)⟩
    · replace c5 := Bool.eq_false_iff.mpr c5
      subst c5
      have H1 : (some false) = some r := by rw [if_neg (show ¬ (false = true) by decide)] at H; exact H
      clear H
      have H := H1
      clear H1
      obtain rfl := Option.some.inj H
      go_enter Tryd.func9, Tryd.ntmps9
      go_wp2_with (first | ((with_reducible refine gate_dst (N := 1) rfl ?_); refine box_event ?hg (N := 1) ?hd (cs := #[.int .i64 a0_0, .int .i64 a0_1, .int .i64 a0_2, .int .i64 a0_3]) (t := 28) ?hr ?_; (case hd => rfl); (case hg => rfl); (case hr => first | (go_simp; done) | (go_simp; rfl)); intro gb115 hg w13 hbox hb; have n0_ := Aside0.mk (below_step (by repeat (first | (with_reducible first | exact HB.out | apply below_alloc | apply pw_below_drewN | apply below_drew1) | exact HB.out)) hb); have n1_ := Aside0.mk (hbox); have n2_ := Aside0.mk ((by rw [hg]; exact (below_size (by repeat (first | (with_reducible first | exact HB.out | apply below_alloc | apply pw_below_drewN | apply below_drew1) | exact HB.out))) : w.heap.size ≤ gb115)); have n3_ := Aside0.mk ((by rw [hg]; exact (below_size (by repeat (first | (with_reducible first | exact HB.out | apply below_alloc | apply pw_below_drewN | apply below_drew1) | exact HB.out))) : w.heap.size ≤ gb115)); clear HB; have HB := n0_; have BK115 := n1_; have GW115 := n2_; have GE115 := n3_; clear n0_ n1_ n2_ n3_; clear hb hbox hg; have hcz14_0 : w13.cell? ⟨gb115, 0, none⟩ = some (.int .i64 a0_0) := (blk_cell BK115.out 0).trans rfl; have hcz14_1 : w13.cell? ⟨gb115, 1, none⟩ = some (.int .i64 a0_1) := (blk_cell BK115.out 1).trans rfl; have hcz14_2 : w13.cell? ⟨gb115, 2, none⟩ = some (.int .i64 a0_2) := (blk_cell BK115.out 2).trans rfl; have hcz14_3 : w13.cell? ⟨gb115, 3, none⟩ = some (.int .i64 a0_3) := (blk_cell BK115.out 3).trans rfl; have hfz14_0 := blk_frozen BK115.out 0; have hfz14_1 := blk_frozen BK115.out 1; have hfz14_2 := blk_frozen BK115.out 2; have hfz14_3 := blk_frozen BK115.out 3) | ((with_reducible refine gate_callee (f := 13) rfl ?_); refine goesL_ (some 5) rfl rfl Tryd.func13 (by kernel_rfl) rfl #[.int .i64 a0_0, .int .i64 0, .int .i64 3] rfl (by (try simp only [List.map_toArray, List.map_cons, List.map_nil]); first | done | rfl | (simp only [List.length_drop, List.length_take]; rfl)) ?_; (with_reducible refine (thermographref10_within.calls a0_0 0 3 true _ A2.out).mono ?_); rintro e w' ⟨rfl, ⟨nd, rfl⟩⟩; refine ⟨_, rfl, ?_⟩) | (go_at_call 13; (with_reducible refine (thermographref10_within.calls a0_1 0 7 false _ A4.out).mono ?_); rintro e w' ⟨rfl, ⟨nd, rfl⟩⟩))
      go_ret
      exact ⟨by first | rfl | (simp [errW_none, errW_some] <;> rfl) | (simp [*, errW_none, errW_some] <;> rfl), by repeat (first | (with_reducible first | exact HB.out | apply below_alloc | apply pw_below_drewN | apply below_drew1 | refine below_set ?_ GE115.out) | exact HB.out)⟩
  · replace c3 := Bool.eq_false_iff.mpr c3
    subst c3
    have H1 : (some false) = some r := by rw [if_neg (show ¬ (false = true) by decide)] at H; exact H
    clear H
    have H := H1
    clear H1
    obtain rfl := Option.some.inj H
    go_enter Tryd.func9, Tryd.ntmps9
    go_wp2_with (first | ((with_reducible refine gate_dst (N := 1) rfl ?_); refine box_event ?hg (N := 1) ?hd (cs := #[.int .i64 a0_0, .int .i64 a0_1, .int .i64 a0_2, .int .i64 a0_3]) (t := 28) ?hr ?_; (case hd => rfl); (case hg => rfl); (case hr => first | (go_simp; done) | (go_simp; rfl)); intro gb115 hg w15 hbox hb; have n0_ := Aside0.mk (below_step (by repeat (first | (with_reducible first | exact HB.out | apply below_alloc | apply pw_below_drewN | apply below_drew1) | exact HB.out)) hb); have n1_ := Aside0.mk (hbox); have n2_ := Aside0.mk ((by rw [hg]; exact (below_size (by repeat (first | (with_reducible first | exact HB.out | apply below_alloc | apply pw_below_drewN | apply below_drew1) | exact HB.out))) : w.heap.size ≤ gb115)); have n3_ := Aside0.mk ((by rw [hg]; exact (below_size (by repeat (first | (with_reducible first | exact HB.out | apply below_alloc | apply pw_below_drewN | apply below_drew1) | exact HB.out))) : w.heap.size ≤ gb115)); clear HB; have HB := n0_; have BK115 := n1_; have GW115 := n2_; have GE115 := n3_; clear n0_ n1_ n2_ n3_; clear hb hbox hg; have hcz16_0 : w15.cell? ⟨gb115, 0, none⟩ = some (.int .i64 a0_0) := (blk_cell BK115.out 0).trans rfl; have hcz16_1 : w15.cell? ⟨gb115, 1, none⟩ = some (.int .i64 a0_1) := (blk_cell BK115.out 1).trans rfl; have hcz16_2 : w15.cell? ⟨gb115, 2, none⟩ = some (.int .i64 a0_2) := (blk_cell BK115.out 2).trans rfl; have hcz16_3 : w15.cell? ⟨gb115, 3, none⟩ = some (.int .i64 a0_3) := (blk_cell BK115.out 3).trans rfl; have hfz16_0 := blk_frozen BK115.out 0; have hfz16_1 := blk_frozen BK115.out 1; have hfz16_2 := blk_frozen BK115.out 2; have hfz16_3 := blk_frozen BK115.out 3) | ((with_reducible refine gate_callee (f := 13) rfl ?_); refine goesL_ (some 5) rfl rfl Tryd.func13 (by kernel_rfl) rfl #[.int .i64 a0_0, .int .i64 0, .int .i64 3] rfl (by (try simp only [List.map_toArray, List.map_cons, List.map_nil]); first | done | rfl | (simp only [List.length_drop, List.length_take]; rfl)) ?_; (with_reducible refine (thermographref10_within.calls a0_0 0 3 false _ A2.out).mono ?_); rintro e w' ⟨rfl, ⟨nd, rfl⟩⟩; refine ⟨_, rfl, ?_⟩))
    go_ret
    exact ⟨by first | rfl | (simp [errW_none, errW_some] <;> rfl) | (simp [*, errW_none, errW_some] <;> rfl), by repeat (first | (with_reducible first | exact HB.out | apply below_alloc | apply pw_below_drewN | apply below_drew1 | refine below_set ?_ GE115.out) | exact HB.out)⟩

/-! ### thermographref10_name: function 10 -/
def thermographref10_name.f (a0_0 : Int) (a0_1 : Int) (a0_2 : Int) (a0_3 : Int) (a1 : ByteArray) : Option (ByteArray) := (thermographref10_digits.f a0_0).bind fun t121 => (if 1 + t121.size ≤ 9223372036854775807 then (if ((⟨#[118]⟩ : ByteArray) ++ t121).size + 1 ≤ 9223372036854775807 then ((thermographref10_digits.f a0_1).bind fun t122 => (if (((⟨#[118]⟩ : ByteArray) ++ t121) ++ (⟨#[45]⟩ : ByteArray)).size + t122.size ≤ 9223372036854775807 then (if ((((⟨#[118]⟩ : ByteArray) ++ t121) ++ (⟨#[45]⟩ : ByteArray)) ++ t122).size + 1 ≤ 9223372036854775807 then ((thermographref10_digits.f a0_2).bind fun t123 => (if (((((⟨#[118]⟩ : ByteArray) ++ t121) ++ (⟨#[45]⟩ : ByteArray)) ++ t122) ++ (⟨#[45]⟩ : ByteArray)).size + t123.size ≤ 9223372036854775807 then (if ((((((⟨#[118]⟩ : ByteArray) ++ t121) ++ (⟨#[45]⟩ : ByteArray)) ++ t122) ++ (⟨#[45]⟩ : ByteArray)) ++ t123).size + 1 ≤ 9223372036854775807 then ((thermographref10_digits.f a0_3).bind fun t124 => (if (((((((⟨#[118]⟩ : ByteArray) ++ t121) ++ (⟨#[45]⟩ : ByteArray)) ++ t122) ++ (⟨#[45]⟩ : ByteArray)) ++ t123) ++ (⟨#[45]⟩ : ByteArray)).size + t124.size ≤ 9223372036854775807 then (if ((((((((⟨#[118]⟩ : ByteArray) ++ t121) ++ (⟨#[45]⟩ : ByteArray)) ++ t122) ++ (⟨#[45]⟩ : ByteArray)) ++ t123) ++ (⟨#[45]⟩ : ByteArray)) ++ t124).size + 1 ≤ 9223372036854775807 then (if (((((((((⟨#[118]⟩ : ByteArray) ++ t121) ++ (⟨#[45]⟩ : ByteArray)) ++ t122) ++ (⟨#[45]⟩ : ByteArray)) ++ t123) ++ (⟨#[45]⟩ : ByteArray)) ++ t124) ++ (⟨#[46]⟩ : ByteArray)).size + a1.size ≤ 9223372036854775807 then (some ((((((((((⟨#[118]⟩ : ByteArray) ++ t121) ++ (⟨#[45]⟩ : ByteArray)) ++ t122) ++ (⟨#[45]⟩ : ByteArray)) ++ t123) ++ (⟨#[45]⟩ : ByteArray)) ++ t124) ++ (⟨#[46]⟩ : ByteArray)) ++ a1)) else (none)) else (none)) else (none))) else (none)) else (none))) else (none)) else (none))) else (none)) else (none))
set_option maxHeartbeats 8000000 in
set_option maxRecDepth 100000 in
theorem thermographref10_name.calls (a0_0 : Int) (a0_1 : Int) (a0_2 : Int) (a0_3 : Int) (a1 : ByteArray) (r : ByteArray) (w : World) (h : thermographref10_name.f a0_0 a0_1 a0_2 a0_3 a1 = some r) :
    Calls Tryd.prog 10 #[.agg #[.int .i64 a0_0, .int .i64 a0_1, .int .i64 a0_2, .int .i64 a0_3], .string a1] w fun e w' => e = .returned (.string r) ∧ Below w.heap.size w w' := by
  have hu28 := Tryd.underlying28
  have HB := Aside0.mk (Below.refl w.heap.size w)
  have H : ((thermographref10_digits.f a0_0).bind fun t121 => (if 1 + t121.size ≤ 9223372036854775807 then (if ((⟨#[118]⟩ : ByteArray) ++ t121).size + 1 ≤ 9223372036854775807 then ((thermographref10_digits.f a0_1).bind fun t122 => (if (((⟨#[118]⟩ : ByteArray) ++ t121) ++ (⟨#[45]⟩ : ByteArray)).size + t122.size ≤ 9223372036854775807 then (if ((((⟨#[118]⟩ : ByteArray) ++ t121) ++ (⟨#[45]⟩ : ByteArray)) ++ t122).size + 1 ≤ 9223372036854775807 then ((thermographref10_digits.f a0_2).bind fun t123 => (if (((((⟨#[118]⟩ : ByteArray) ++ t121) ++ (⟨#[45]⟩ : ByteArray)) ++ t122) ++ (⟨#[45]⟩ : ByteArray)).size + t123.size ≤ 9223372036854775807 then (if ((((((⟨#[118]⟩ : ByteArray) ++ t121) ++ (⟨#[45]⟩ : ByteArray)) ++ t122) ++ (⟨#[45]⟩ : ByteArray)) ++ t123).size + 1 ≤ 9223372036854775807 then ((thermographref10_digits.f a0_3).bind fun t124 => (if (((((((⟨#[118]⟩ : ByteArray) ++ t121) ++ (⟨#[45]⟩ : ByteArray)) ++ t122) ++ (⟨#[45]⟩ : ByteArray)) ++ t123) ++ (⟨#[45]⟩ : ByteArray)).size + t124.size ≤ 9223372036854775807 then (if ((((((((⟨#[118]⟩ : ByteArray) ++ t121) ++ (⟨#[45]⟩ : ByteArray)) ++ t122) ++ (⟨#[45]⟩ : ByteArray)) ++ t123) ++ (⟨#[45]⟩ : ByteArray)) ++ t124).size + 1 ≤ 9223372036854775807 then (if (((((((((⟨#[118]⟩ : ByteArray) ++ t121) ++ (⟨#[45]⟩ : ByteArray)) ++ t122) ++ (⟨#[45]⟩ : ByteArray)) ++ t123) ++ (⟨#[45]⟩ : ByteArray)) ++ t124) ++ (⟨#[46]⟩ : ByteArray)).size + a1.size ≤ 9223372036854775807 then (some ((((((((((⟨#[118]⟩ : ByteArray) ++ t121) ++ (⟨#[45]⟩ : ByteArray)) ++ t122) ++ (⟨#[45]⟩ : ByteArray)) ++ t123) ++ (⟨#[45]⟩ : ByteArray)) ++ t124) ++ (⟨#[46]⟩ : ByteArray)) ++ a1)) else (none)) else (none)) else (none))) else (none)) else (none))) else (none)) else (none))) else (none)) else (none))) = some r := h
  clear h
  replace H := Option.bind_eq_some_iff.mp H
  obtain ⟨t121, A30, H⟩ := H
  replace H : (if 1 + t121.size ≤ 9223372036854775807 then (if ((⟨#[118]⟩ : ByteArray) ++ t121).size + 1 ≤ 9223372036854775807 then ((thermographref10_digits.f a0_1).bind fun t122 => (if (((⟨#[118]⟩ : ByteArray) ++ t121) ++ (⟨#[45]⟩ : ByteArray)).size + t122.size ≤ 9223372036854775807 then (if ((((⟨#[118]⟩ : ByteArray) ++ t121) ++ (⟨#[45]⟩ : ByteArray)) ++ t122).size + 1 ≤ 9223372036854775807 then ((thermographref10_digits.f a0_2).bind fun t123 => (if (((((⟨#[118]⟩ : ByteArray) ++ t121) ++ (⟨#[45]⟩ : ByteArray)) ++ t122) ++ (⟨#[45]⟩ : ByteArray)).size + t123.size ≤ 9223372036854775807 then (if ((((((⟨#[118]⟩ : ByteArray) ++ t121) ++ (⟨#[45]⟩ : ByteArray)) ++ t122) ++ (⟨#[45]⟩ : ByteArray)) ++ t123).size + 1 ≤ 9223372036854775807 then ((thermographref10_digits.f a0_3).bind fun t124 => (if (((((((⟨#[118]⟩ : ByteArray) ++ t121) ++ (⟨#[45]⟩ : ByteArray)) ++ t122) ++ (⟨#[45]⟩ : ByteArray)) ++ t123) ++ (⟨#[45]⟩ : ByteArray)).size + t124.size ≤ 9223372036854775807 then (if ((((((((⟨#[118]⟩ : ByteArray) ++ t121) ++ (⟨#[45]⟩ : ByteArray)) ++ t122) ++ (⟨#[45]⟩ : ByteArray)) ++ t123) ++ (⟨#[45]⟩ : ByteArray)) ++ t124).size + 1 ≤ 9223372036854775807 then (if (((((((((⟨#[118]⟩ : ByteArray) ++ t121) ++ (⟨#[45]⟩ : ByteArray)) ++ t122) ++ (⟨#[45]⟩ : ByteArray)) ++ t123) ++ (⟨#[45]⟩ : ByteArray)) ++ t124) ++ (⟨#[46]⟩ : ByteArray)).size + a1.size ≤ 9223372036854775807 then (some ((((((((((⟨#[118]⟩ : ByteArray) ++ t121) ++ (⟨#[45]⟩ : ByteArray)) ++ t122) ++ (⟨#[45]⟩ : ByteArray)) ++ t123) ++ (⟨#[45]⟩ : ByteArray)) ++ t124) ++ (⟨#[46]⟩ : ByteArray)) ++ a1)) else (none)) else (none)) else (none))) else (none)) else (none))) else (none)) else (none))) else (none)) else (none)) = some r := H
  have A3 := Aside0.mk A30
  clear A30
  by_cases c4 : 1 + t121.size ≤ 9223372036854775807
  · rw [if_pos c4] at H
    have c4b0 := eq_true c4
    have c4b1 : decide (1 + t121.size ≤ 9223372036854775807) = true := decide_eq_true c4
    try have c4b2 : (9223372036854775807 < 1 + t121.size) = False := eq_false (Nat.not_lt.2 c4)
    by_cases c5 : ((⟨#[118]⟩ : ByteArray) ++ t121).size + 1 ≤ 9223372036854775807
    · rw [if_pos c5] at H
      have c5b0 := eq_true c5
      have c5b1 : decide (((⟨#[118]⟩ : ByteArray) ++ t121).size + 1 ≤ 9223372036854775807) = true := decide_eq_true c5
      try have c5b2 : (9223372036854775807 < ((⟨#[118]⟩ : ByteArray) ++ t121).size + 1) = False := eq_false (Nat.not_lt.2 c5)
      try have c5b3 : (9223372036854775807 < 1 + t121.size + 1) = False := eq_false (Nat.not_lt.2 (by have h_ := c5; simp only [ByteArray.size_append] at h_; exact h_))
      replace H := Option.bind_eq_some_iff.mp H
      obtain ⟨t122, A60, H⟩ := H
      replace H : (if (((⟨#[118]⟩ : ByteArray) ++ t121) ++ (⟨#[45]⟩ : ByteArray)).size + t122.size ≤ 9223372036854775807 then (if ((((⟨#[118]⟩ : ByteArray) ++ t121) ++ (⟨#[45]⟩ : ByteArray)) ++ t122).size + 1 ≤ 9223372036854775807 then ((thermographref10_digits.f a0_2).bind fun t123 => (if (((((⟨#[118]⟩ : ByteArray) ++ t121) ++ (⟨#[45]⟩ : ByteArray)) ++ t122) ++ (⟨#[45]⟩ : ByteArray)).size + t123.size ≤ 9223372036854775807 then (if ((((((⟨#[118]⟩ : ByteArray) ++ t121) ++ (⟨#[45]⟩ : ByteArray)) ++ t122) ++ (⟨#[45]⟩ : ByteArray)) ++ t123).size + 1 ≤ 9223372036854775807 then ((thermographref10_digits.f a0_3).bind fun t124 => (if (((((((⟨#[118]⟩ : ByteArray) ++ t121) ++ (⟨#[45]⟩ : ByteArray)) ++ t122) ++ (⟨#[45]⟩ : ByteArray)) ++ t123) ++ (⟨#[45]⟩ : ByteArray)).size + t124.size ≤ 9223372036854775807 then (if ((((((((⟨#[118]⟩ : ByteArray) ++ t121) ++ (⟨#[45]⟩ : ByteArray)) ++ t122) ++ (⟨#[45]⟩ : ByteArray)) ++ t123) ++ (⟨#[45]⟩ : ByteArray)) ++ t124).size + 1 ≤ 9223372036854775807 then (if (((((((((⟨#[118]⟩ : ByteArray) ++ t121) ++ (⟨#[45]⟩ : ByteArray)) ++ t122) ++ (⟨#[45]⟩ : ByteArray)) ++ t123) ++ (⟨#[45]⟩ : ByteArray)) ++ t124) ++ (⟨#[46]⟩ : ByteArray)).size + a1.size ≤ 9223372036854775807 then (some ((((((((((⟨#[118]⟩ : ByteArray) ++ t121) ++ (⟨#[45]⟩ : ByteArray)) ++ t122) ++ (⟨#[45]⟩ : ByteArray)) ++ t123) ++ (⟨#[45]⟩ : ByteArray)) ++ t124) ++ (⟨#[46]⟩ : ByteArray)) ++ a1)) else (none)) else (none)) else (none))) else (none)) else (none))) else (none)) else (none)) = some r := H
      have A6 := Aside0.mk A60
      clear A60
      by_cases c7 : (((⟨#[118]⟩ : ByteArray) ++ t121) ++ (⟨#[45]⟩ : ByteArray)).size + t122.size ≤ 9223372036854775807
      · rw [if_pos c7] at H
        have c7b0 := eq_true c7
        have c7b1 : decide ((((⟨#[118]⟩ : ByteArray) ++ t121) ++ (⟨#[45]⟩ : ByteArray)).size + t122.size ≤ 9223372036854775807) = true := decide_eq_true c7
        try have c7b2 : (9223372036854775807 < (((⟨#[118]⟩ : ByteArray) ++ t121) ++ (⟨#[45]⟩ : ByteArray)).size + t122.size) = False := eq_false (Nat.not_lt.2 c7)
        try have c7b3 : (9223372036854775807 < 1 + t121.size + 1 + t122.size) = False := eq_false (Nat.not_lt.2 (by have h_ := c7; simp only [ByteArray.size_append] at h_; exact h_))
        by_cases c8 : ((((⟨#[118]⟩ : ByteArray) ++ t121) ++ (⟨#[45]⟩ : ByteArray)) ++ t122).size + 1 ≤ 9223372036854775807
        · rw [if_pos c8] at H
          have c8b0 := eq_true c8
          have c8b1 : decide (((((⟨#[118]⟩ : ByteArray) ++ t121) ++ (⟨#[45]⟩ : ByteArray)) ++ t122).size + 1 ≤ 9223372036854775807) = true := decide_eq_true c8
          try have c8b2 : (9223372036854775807 < ((((⟨#[118]⟩ : ByteArray) ++ t121) ++ (⟨#[45]⟩ : ByteArray)) ++ t122).size + 1) = False := eq_false (Nat.not_lt.2 c8)
          try have c8b3 : (9223372036854775807 < 1 + t121.size + 1 + t122.size + 1) = False := eq_false (Nat.not_lt.2 (by have h_ := c8; simp only [ByteArray.size_append] at h_; exact h_))
          replace H := Option.bind_eq_some_iff.mp H
          obtain ⟨t123, A90, H⟩ := H
          replace H : (if (((((⟨#[118]⟩ : ByteArray) ++ t121) ++ (⟨#[45]⟩ : ByteArray)) ++ t122) ++ (⟨#[45]⟩ : ByteArray)).size + t123.size ≤ 9223372036854775807 then (if ((((((⟨#[118]⟩ : ByteArray) ++ t121) ++ (⟨#[45]⟩ : ByteArray)) ++ t122) ++ (⟨#[45]⟩ : ByteArray)) ++ t123).size + 1 ≤ 9223372036854775807 then ((thermographref10_digits.f a0_3).bind fun t124 => (if (((((((⟨#[118]⟩ : ByteArray) ++ t121) ++ (⟨#[45]⟩ : ByteArray)) ++ t122) ++ (⟨#[45]⟩ : ByteArray)) ++ t123) ++ (⟨#[45]⟩ : ByteArray)).size + t124.size ≤ 9223372036854775807 then (if ((((((((⟨#[118]⟩ : ByteArray) ++ t121) ++ (⟨#[45]⟩ : ByteArray)) ++ t122) ++ (⟨#[45]⟩ : ByteArray)) ++ t123) ++ (⟨#[45]⟩ : ByteArray)) ++ t124).size + 1 ≤ 9223372036854775807 then (if (((((((((⟨#[118]⟩ : ByteArray) ++ t121) ++ (⟨#[45]⟩ : ByteArray)) ++ t122) ++ (⟨#[45]⟩ : ByteArray)) ++ t123) ++ (⟨#[45]⟩ : ByteArray)) ++ t124) ++ (⟨#[46]⟩ : ByteArray)).size + a1.size ≤ 9223372036854775807 then (some ((((((((((⟨#[118]⟩ : ByteArray) ++ t121) ++ (⟨#[45]⟩ : ByteArray)) ++ t122) ++ (⟨#[45]⟩ : ByteArray)) ++ t123) ++ (⟨#[45]⟩ : ByteArray)) ++ t124) ++ (⟨#[46]⟩ : ByteArray)) ++ a1)) else (none)) else (none)) else (none))) else (none)) else (none)) = some r := H
          have A9 := Aside0.mk A90
          clear A90
          by_cases c10 : (((((⟨#[118]⟩ : ByteArray) ++ t121) ++ (⟨#[45]⟩ : ByteArray)) ++ t122) ++ (⟨#[45]⟩ : ByteArray)).size + t123.size ≤ 9223372036854775807
          · rw [if_pos c10] at H
            have c10b0 := eq_true c10
            have c10b1 : decide ((((((⟨#[118]⟩ : ByteArray) ++ t121) ++ (⟨#[45]⟩ : ByteArray)) ++ t122) ++ (⟨#[45]⟩ : ByteArray)).size + t123.size ≤ 9223372036854775807) = true := decide_eq_true c10
            try have c10b2 : (9223372036854775807 < (((((⟨#[118]⟩ : ByteArray) ++ t121) ++ (⟨#[45]⟩ : ByteArray)) ++ t122) ++ (⟨#[45]⟩ : ByteArray)).size + t123.size) = False := eq_false (Nat.not_lt.2 c10)
            try have c10b3 : (9223372036854775807 < 1 + t121.size + 1 + t122.size + 1 + t123.size) = False := eq_false (Nat.not_lt.2 (by have h_ := c10; simp only [ByteArray.size_append] at h_; exact h_))
            by_cases c11 : ((((((⟨#[118]⟩ : ByteArray) ++ t121) ++ (⟨#[45]⟩ : ByteArray)) ++ t122) ++ (⟨#[45]⟩ : ByteArray)) ++ t123).size + 1 ≤ 9223372036854775807
            · rw [if_pos c11] at H
              have c11b0 := eq_true c11
              have c11b1 : decide (((((((⟨#[118]⟩ : ByteArray) ++ t121) ++ (⟨#[45]⟩ : ByteArray)) ++ t122) ++ (⟨#[45]⟩ : ByteArray)) ++ t123).size + 1 ≤ 9223372036854775807) = true := decide_eq_true c11
              try have c11b2 : (9223372036854775807 < ((((((⟨#[118]⟩ : ByteArray) ++ t121) ++ (⟨#[45]⟩ : ByteArray)) ++ t122) ++ (⟨#[45]⟩ : ByteArray)) ++ t123).size + 1) = False := eq_false (Nat.not_lt.2 c11)
              try have c11b3 : (9223372036854775807 < 1 + t121.size + 1 + t122.size + 1 + t123.size + 1) = False := eq_false (Nat.not_lt.2 (by have h_ := c11; simp only [ByteArray.size_append] at h_; exact h_))
              replace H := Option.bind_eq_some_iff.mp H
              obtain ⟨t124, A120, H⟩ := H
              replace H : (if (((((((⟨#[118]⟩ : ByteArray) ++ t121) ++ (⟨#[45]⟩ : ByteArray)) ++ t122) ++ (⟨#[45]⟩ : ByteArray)) ++ t123) ++ (⟨#[45]⟩ : ByteArray)).size + t124.size ≤ 9223372036854775807 then (if ((((((((⟨#[118]⟩ : ByteArray) ++ t121) ++ (⟨#[45]⟩ : ByteArray)) ++ t122) ++ (⟨#[45]⟩ : ByteArray)) ++ t123) ++ (⟨#[45]⟩ : ByteArray)) ++ t124).size + 1 ≤ 9223372036854775807 then (if (((((((((⟨#[118]⟩ : ByteArray) ++ t121) ++ (⟨#[45]⟩ : ByteArray)) ++ t122) ++ (⟨#[45]⟩ : ByteArray)) ++ t123) ++ (⟨#[45]⟩ : ByteArray)) ++ t124) ++ (⟨#[46]⟩ : ByteArray)).size + a1.size ≤ 9223372036854775807 then (some ((((((((((⟨#[118]⟩ : ByteArray) ++ t121) ++ (⟨#[45]⟩ : ByteArray)) ++ t122) ++ (⟨#[45]⟩ : ByteArray)) ++ t123) ++ (⟨#[45]⟩ : ByteArray)) ++ t124) ++ (⟨#[46]⟩ : ByteArray)) ++ a1)) else (none)) else (none)) else (none)) = some r := H
              have A12 := Aside0.mk A120
              clear A120
              by_cases c13 : (((((((⟨#[118]⟩ : ByteArray) ++ t121) ++ (⟨#[45]⟩ : ByteArray)) ++ t122) ++ (⟨#[45]⟩ : ByteArray)) ++ t123) ++ (⟨#[45]⟩ : ByteArray)).size + t124.size ≤ 9223372036854775807
              · rw [if_pos c13] at H
                have c13b0 := eq_true c13
                have c13b1 : decide ((((((((⟨#[118]⟩ : ByteArray) ++ t121) ++ (⟨#[45]⟩ : ByteArray)) ++ t122) ++ (⟨#[45]⟩ : ByteArray)) ++ t123) ++ (⟨#[45]⟩ : ByteArray)).size + t124.size ≤ 9223372036854775807) = true := decide_eq_true c13
                try have c13b2 : (9223372036854775807 < (((((((⟨#[118]⟩ : ByteArray) ++ t121) ++ (⟨#[45]⟩ : ByteArray)) ++ t122) ++ (⟨#[45]⟩ : ByteArray)) ++ t123) ++ (⟨#[45]⟩ : ByteArray)).size + t124.size) = False := eq_false (Nat.not_lt.2 c13)
                try have c13b3 : (9223372036854775807 < 1 + t121.size + 1 + t122.size + 1 + t123.size + 1 + t124.size) = False := eq_false (Nat.not_lt.2 (by have h_ := c13; simp only [ByteArray.size_append] at h_; exact h_))
                by_cases c14 : ((((((((⟨#[118]⟩ : ByteArray) ++ t121) ++ (⟨#[45]⟩ : ByteArray)) ++ t122) ++ (⟨#[45]⟩ : ByteArray)) ++ t123) ++ (⟨#[45]⟩ : ByteArray)) ++ t124).size + 1 ≤ 9223372036854775807
                · rw [if_pos c14] at H
                  have c14b0 := eq_true c14
                  have c14b1 : decide (((((((((⟨#[118]⟩ : ByteArray) ++ t121) ++ (⟨#[45]⟩ : ByteArray)) ++ t122) ++ (⟨#[45]⟩ : ByteArray)) ++ t123) ++ (⟨#[45]⟩ : ByteArray)) ++ t124).size + 1 ≤ 9223372036854775807) = true := decide_eq_true c14
                  try have c14b2 : (9223372036854775807 < ((((((((⟨#[118]⟩ : ByteArray) ++ t121) ++ (⟨#[45]⟩ : ByteArray)) ++ t122) ++ (⟨#[45]⟩ : ByteArray)) ++ t123) ++ (⟨#[45]⟩ : ByteArray)) ++ t124).size + 1) = False := eq_false (Nat.not_lt.2 c14)
                  try have c14b3 : (9223372036854775807 < 1 + t121.size + 1 + t122.size + 1 + t123.size + 1 + t124.size + 1) = False := eq_false (Nat.not_lt.2 (by have h_ := c14; simp only [ByteArray.size_append] at h_; exact h_))
                  by_cases c15 : (((((((((⟨#[118]⟩ : ByteArray) ++ t121) ++ (⟨#[45]⟩ : ByteArray)) ++ t122) ++ (⟨#[45]⟩ : ByteArray)) ++ t123) ++ (⟨#[45]⟩ : ByteArray)) ++ t124) ++ (⟨#[46]⟩ : ByteArray)).size + a1.size ≤ 9223372036854775807
                  · rw [if_pos c15] at H
                    have c15b0 := eq_true c15
                    have c15b1 : decide ((((((((((⟨#[118]⟩ : ByteArray) ++ t121) ++ (⟨#[45]⟩ : ByteArray)) ++ t122) ++ (⟨#[45]⟩ : ByteArray)) ++ t123) ++ (⟨#[45]⟩ : ByteArray)) ++ t124) ++ (⟨#[46]⟩ : ByteArray)).size + a1.size ≤ 9223372036854775807) = true := decide_eq_true c15
                    try have c15b2 : (9223372036854775807 < (((((((((⟨#[118]⟩ : ByteArray) ++ t121) ++ (⟨#[45]⟩ : ByteArray)) ++ t122) ++ (⟨#[45]⟩ : ByteArray)) ++ t123) ++ (⟨#[45]⟩ : ByteArray)) ++ t124) ++ (⟨#[46]⟩ : ByteArray)).size + a1.size) = False := eq_false (Nat.not_lt.2 c15)
                    try have c15b3 : (9223372036854775807 < 1 + t121.size + 1 + t122.size + 1 + t123.size + 1 + t124.size + 1 + a1.size) = False := eq_false (Nat.not_lt.2 (by have h_ := c15; simp only [ByteArray.size_append] at h_; exact h_))
                    obtain rfl := Option.some.inj H
                    go_enter Tryd.func10, Tryd.ntmps10
                    go_wp2_with (first | ((with_reducible refine gate_dst (N := 2) rfl ?_); refine box_event ?hg (N := 2) ?hd (cs := #[.int .i64 a0_0, .int .i64 a0_1, .int .i64 a0_2, .int .i64 a0_3]) (t := 28) ?hr ?_; (case hd => rfl); (case hg => rfl); (case hr => first | (go_simp; done) | (go_simp; rfl)); intro gb120 hg w16 hbox hb; have n0_ := Aside0.mk (below_step (by repeat (first | (with_reducible first | exact HB.out | apply below_alloc | apply pw_below_drewN | apply below_drew1) | exact HB.out)) hb); have n1_ := Aside0.mk (hbox); have n2_ := Aside0.mk ((by rw [hg]; exact (below_size (by repeat (first | (with_reducible first | exact HB.out | apply below_alloc | apply pw_below_drewN | apply below_drew1) | exact HB.out))) : w.heap.size ≤ gb120)); have n3_ := Aside0.mk ((by rw [hg]; exact (below_size (by repeat (first | (with_reducible first | exact HB.out | apply below_alloc | apply pw_below_drewN | apply below_drew1) | exact HB.out))) : w.heap.size ≤ gb120)); clear HB; have HB := n0_; have BK120 := n1_; have GW120 := n2_; have GE120 := n3_; clear n0_ n1_ n2_ n3_; clear hb hbox hg; have hcz17_0 : w16.cell? ⟨gb120, 0, none⟩ = some (.int .i64 a0_0) := (blk_cell BK120.out 0).trans rfl; have hcz17_1 : w16.cell? ⟨gb120, 1, none⟩ = some (.int .i64 a0_1) := (blk_cell BK120.out 1).trans rfl; have hcz17_2 : w16.cell? ⟨gb120, 2, none⟩ = some (.int .i64 a0_2) := (blk_cell BK120.out 2).trans rfl; have hcz17_3 : w16.cell? ⟨gb120, 3, none⟩ = some (.int .i64 a0_3) := (blk_cell BK120.out 3).trans rfl; have hfz17_0 := blk_frozen BK120.out 0; have hfz17_1 := blk_frozen BK120.out 1; have hfz17_2 := blk_frozen BK120.out 2; have hfz17_3 := blk_frozen BK120.out 3) | (go_at_call 14; (with_reducible refine (thermographref10_digits.calls a0_0 t121 _ A3.out).mono ?_); rintro e w' ⟨rfl, ⟨nd, rfl⟩⟩; (try first | exact ⟨rfl, _, World.drewN_drewN _ _ _⟩ | exact ⟨rfl, _, Eq.trans (World.drewN_drewN _ _ _) (congrArg (World.drewN _) (Nat.add_assoc _ _ _))⟩)) | (go_at_call 14; (with_reducible refine (thermographref10_digits.calls a0_1 t122 _ A6.out).mono ?_); rintro e w' ⟨rfl, ⟨nd, rfl⟩⟩; (try first | exact ⟨rfl, _, World.drewN_drewN _ _ _⟩ | exact ⟨rfl, _, Eq.trans (World.drewN_drewN _ _ _) (congrArg (World.drewN _) (Nat.add_assoc _ _ _))⟩)) | (go_at_call 14; (with_reducible refine (thermographref10_digits.calls a0_2 t123 _ A9.out).mono ?_); rintro e w' ⟨rfl, ⟨nd, rfl⟩⟩; (try first | exact ⟨rfl, _, World.drewN_drewN _ _ _⟩ | exact ⟨rfl, _, Eq.trans (World.drewN_drewN _ _ _) (congrArg (World.drewN _) (Nat.add_assoc _ _ _))⟩)) | (go_at_call 14; (with_reducible refine (thermographref10_digits.calls a0_3 t124 _ A12.out).mono ?_); rintro e w' ⟨rfl, ⟨nd, rfl⟩⟩; (try first | exact ⟨rfl, _, World.drewN_drewN _ _ _⟩ | exact ⟨rfl, _, Eq.trans (World.drewN_drewN _ _ _) (congrArg (World.drewN _) (Nat.add_assoc _ _ _))⟩)))
                    repeat (go_quiet (first | ((with_reducible refine gate_dst (N := 2) rfl ?_); refine box_event ?hg (N := 2) ?hd (cs := #[.int .i64 a0_0, .int .i64 a0_1, .int .i64 a0_2, .int .i64 a0_3]) (t := 28) ?hr ?_; (case hd => rfl); (case hg => rfl); (case hr => first | (go_simp; done) | (go_simp; rfl)); intro gb120 hg w16 hbox hb; have n0_ := Aside0.mk (below_step (by repeat (first | (with_reducible first | exact HB.out | apply below_alloc | apply pw_below_drewN | apply below_drew1) | exact HB.out)) hb); have n1_ := Aside0.mk (hbox); have n2_ := Aside0.mk ((by rw [hg]; exact (below_size (by repeat (first | (with_reducible first | exact HB.out | apply below_alloc | apply pw_below_drewN | apply below_drew1) | exact HB.out))) : w.heap.size ≤ gb120)); have n3_ := Aside0.mk ((by rw [hg]; exact (below_size (by repeat (first | (with_reducible first | exact HB.out | apply below_alloc | apply pw_below_drewN | apply below_drew1) | exact HB.out))) : w.heap.size ≤ gb120)); clear HB; have HB := n0_; have BK120 := n1_; have GW120 := n2_; have GE120 := n3_; clear n0_ n1_ n2_ n3_; clear hb hbox hg; have hcz17_0 : w16.cell? ⟨gb120, 0, none⟩ = some (.int .i64 a0_0) := (blk_cell BK120.out 0).trans rfl; have hcz17_1 : w16.cell? ⟨gb120, 1, none⟩ = some (.int .i64 a0_1) := (blk_cell BK120.out 1).trans rfl; have hcz17_2 : w16.cell? ⟨gb120, 2, none⟩ = some (.int .i64 a0_2) := (blk_cell BK120.out 2).trans rfl; have hcz17_3 : w16.cell? ⟨gb120, 3, none⟩ = some (.int .i64 a0_3) := (blk_cell BK120.out 3).trans rfl; have hfz17_0 := blk_frozen BK120.out 0; have hfz17_1 := blk_frozen BK120.out 1; have hfz17_2 := blk_frozen BK120.out 2; have hfz17_3 := blk_frozen BK120.out 3) | (go_at_call 14; (with_reducible refine (thermographref10_digits.calls a0_0 t121 _ A3.out).mono ?_); rintro e w' ⟨rfl, ⟨nd, rfl⟩⟩; (try first | exact ⟨rfl, _, World.drewN_drewN _ _ _⟩ | exact ⟨rfl, _, Eq.trans (World.drewN_drewN _ _ _) (congrArg (World.drewN _) (Nat.add_assoc _ _ _))⟩)) | (go_at_call 14; (with_reducible refine (thermographref10_digits.calls a0_1 t122 _ A6.out).mono ?_); rintro e w' ⟨rfl, ⟨nd, rfl⟩⟩; (try first | exact ⟨rfl, _, World.drewN_drewN _ _ _⟩ | exact ⟨rfl, _, Eq.trans (World.drewN_drewN _ _ _) (congrArg (World.drewN _) (Nat.add_assoc _ _ _))⟩)) | (go_at_call 14; (with_reducible refine (thermographref10_digits.calls a0_2 t123 _ A9.out).mono ?_); rintro e w' ⟨rfl, ⟨nd, rfl⟩⟩; (try first | exact ⟨rfl, _, World.drewN_drewN _ _ _⟩ | exact ⟨rfl, _, Eq.trans (World.drewN_drewN _ _ _) (congrArg (World.drewN _) (Nat.add_assoc _ _ _))⟩)) | (go_at_call 14; (with_reducible refine (thermographref10_digits.calls a0_3 t124 _ A12.out).mono ?_); rintro e w' ⟨rfl, ⟨nd, rfl⟩⟩; (try first | exact ⟨rfl, _, World.drewN_drewN _ _ _⟩ | exact ⟨rfl, _, Eq.trans (World.drewN_drewN _ _ _) (congrArg (World.drewN _) (Nat.add_assoc _ _ _))⟩))); try go_wp2_with (first | ((with_reducible refine gate_dst (N := 2) rfl ?_); refine box_event ?hg (N := 2) ?hd (cs := #[.int .i64 a0_0, .int .i64 a0_1, .int .i64 a0_2, .int .i64 a0_3]) (t := 28) ?hr ?_; (case hd => rfl); (case hg => rfl); (case hr => first | (go_simp; done) | (go_simp; rfl)); intro gb120 hg w16 hbox hb; have n0_ := Aside0.mk (below_step (by repeat (first | (with_reducible first | exact HB.out | apply below_alloc | apply pw_below_drewN | apply below_drew1) | exact HB.out)) hb); have n1_ := Aside0.mk (hbox); have n2_ := Aside0.mk ((by rw [hg]; exact (below_size (by repeat (first | (with_reducible first | exact HB.out | apply below_alloc | apply pw_below_drewN | apply below_drew1) | exact HB.out))) : w.heap.size ≤ gb120)); have n3_ := Aside0.mk ((by rw [hg]; exact (below_size (by repeat (first | (with_reducible first | exact HB.out | apply below_alloc | apply pw_below_drewN | apply below_drew1) | exact HB.out))) : w.heap.size ≤ gb120)); clear HB; have HB := n0_; have BK120 := n1_; have GW120 := n2_; have GE120 := n3_; clear n0_ n1_ n2_ n3_; clear hb hbox hg; have hcz17_0 : w16.cell? ⟨gb120, 0, none⟩ = some (.int .i64 a0_0) := (blk_cell BK120.out 0).trans rfl; have hcz17_1 : w16.cell? ⟨gb120, 1, none⟩ = some (.int .i64 a0_1) := (blk_cell BK120.out 1).trans rfl; have hcz17_2 : w16.cell? ⟨gb120, 2, none⟩ = some (.int .i64 a0_2) := (blk_cell BK120.out 2).trans rfl; have hcz17_3 : w16.cell? ⟨gb120, 3, none⟩ = some (.int .i64 a0_3) := (blk_cell BK120.out 3).trans rfl; have hfz17_0 := blk_frozen BK120.out 0; have hfz17_1 := blk_frozen BK120.out 1; have hfz17_2 := blk_frozen BK120.out 2; have hfz17_3 := blk_frozen BK120.out 3) | (go_at_call 14; (with_reducible refine (thermographref10_digits.calls a0_0 t121 _ A3.out).mono ?_); rintro e w' ⟨rfl, ⟨nd, rfl⟩⟩; (try first | exact ⟨rfl, _, World.drewN_drewN _ _ _⟩ | exact ⟨rfl, _, Eq.trans (World.drewN_drewN _ _ _) (congrArg (World.drewN _) (Nat.add_assoc _ _ _))⟩)) | (go_at_call 14; (with_reducible refine (thermographref10_digits.calls a0_1 t122 _ A6.out).mono ?_); rintro e w' ⟨rfl, ⟨nd, rfl⟩⟩; (try first | exact ⟨rfl, _, World.drewN_drewN _ _ _⟩ | exact ⟨rfl, _, Eq.trans (World.drewN_drewN _ _ _) (congrArg (World.drewN _) (Nat.add_assoc _ _ _))⟩)) | (go_at_call 14; (with_reducible refine (thermographref10_digits.calls a0_2 t123 _ A9.out).mono ?_); rintro e w' ⟨rfl, ⟨nd, rfl⟩⟩; (try first | exact ⟨rfl, _, World.drewN_drewN _ _ _⟩ | exact ⟨rfl, _, Eq.trans (World.drewN_drewN _ _ _) (congrArg (World.drewN _) (Nat.add_assoc _ _ _))⟩)) | (go_at_call 14; (with_reducible refine (thermographref10_digits.calls a0_3 t124 _ A12.out).mono ?_); rintro e w' ⟨rfl, ⟨nd, rfl⟩⟩; (try first | exact ⟨rfl, _, World.drewN_drewN _ _ _⟩ | exact ⟨rfl, _, Eq.trans (World.drewN_drewN _ _ _) (congrArg (World.drewN _) (Nat.add_assoc _ _ _))⟩))))
                    go_ret
                    exact ⟨by first | rfl | (simp [errW_none, errW_some] <;> rfl) | (simp [*, errW_none, errW_some] <;> rfl), by repeat (first | (with_reducible first | exact HB.out | apply below_alloc | apply pw_below_drewN | apply below_drew1 | refine below_set ?_ GE120.out) | exact HB.out)⟩
                  · rw [if_neg c15] at H
                    exact absurd H (by simp)
                · rw [if_neg c14] at H
                  exact absurd H (by simp)
              · rw [if_neg c13] at H
                exact absurd H (by simp)
            · rw [if_neg c11] at H
              exact absurd H (by simp)
          · rw [if_neg c10] at H
            exact absurd H (by simp)
        · rw [if_neg c8] at H
          exact absurd H (by simp)
      · rw [if_neg c7] at H
        exact absurd H (by simp)
    · rw [if_neg c5] at H
      exact absurd H (by simp)
  · rw [if_neg c4] at H
    exact absurd H (by simp)

end Go.Proofs.YtgfaocfdknckpaaDoor.QA
