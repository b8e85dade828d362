-- Laid by wip/tools/myprint.py of this repo. Not trusted: Lean checks it.
import Derived.Test.YtiinmagnpkfbbaaGreatQT3
set_option maxHeartbeats 8000000
set_option maxRecDepth 100000
namespace Go.Proofs.YtiinmagnpkfbbaaGreat.QT
open Go.RowKit Go.Proofs.YtiinmagnpkfbbaaGreatW.PrintWords Go.Proofs.YtiinmagnpkfbbaaGreatW.PrintLast Go.Proofs.YtiinmagnpkfbbaaGreatW.PrintMore
attribute [local go_sem] max2_int min2_int max_two min_two max_three min_three max_four min_four   -- for this text's walks alone
set_option linter.unusedVariables false
set_option linter.unusedSimpArgs false
def thermographref14_Owns.f (k : Nat) (a0_0 : Int) (l0_1 : List Int) (l0_2 : List (List (S57))) (a1 : Int) (a2 : Int) : Option (Bool) := (thermographref14_Find.f k a0_0 l0_1 l0_2 a1 a2).bind fun bt127 => (if bt127.2.2.2 = true then (some (bt127.2.1 != 3)) else (some false))
theorem thermographref14_Owns.calls (k : Nat) (a0_0 : Int) (A0_1 : Option Addr) (c0_1 : Nat) (l0_1 : List Int) (A0_2 : Option Addr) (c0_2 : Nat) (l0_2 : List (List (S57))) (a1 : Int) (a2 : Int) (r : Bool) (w : World) (hr0_1 : Kd.C (Kd.int .i64) w A0_1 l0_1.length l0_1) (hc0_1 : l0_1.length ≤ c0_1) (hr0_2 : Kd.C (Kd.slice 57 k57) w A0_2 l0_2.length l0_2) (hc0_2 : l0_2.length ≤ c0_2) (h : thermographref14_Owns.f k a0_0 l0_1 l0_2 a1 a2 = some r) :
  Calls Tryz.prog 28 #[.agg #[.int .i64 a0_0, .slice A0_1 l0_1.length c0_1, .slice A0_2 l0_2.length c0_2], .int .i64 a1, .int .i64 a2] w fun e w' => e = .returned (.bool r) ∧ Below w.heap.size w w' := by
 have HR0_1 := Aside0.mk hr0_1; have HC0_1 := Aside0.mk hc0_1; clear hr0_1 hc0_1; have HR0_2 := Aside0.mk hr0_2; have HC0_2 := Aside0.mk hc0_2; clear hr0_2 hc0_2; have HB := Aside0.mk (Below.refl w.heap.size w); have H : ((thermographref14_Find.f k a0_0 l0_1 l0_2 a1 a2).bind fun bt127 => (if bt127.2.2.2 = true then (some (bt127.2.1 != 3)) else (some false))) = some r := h; clear h; replace H := Option.bind_eq_some_iff.mp H; obtain ⟨⟨t127, t128, t129, t130⟩, A40, H⟩ := H; replace H : (if t130 = true then (some (t128 != 3)) else (some false)) = some r := H; have A4 := Aside0.mk A40; clear A40
 by_cases c5 : t130 = true
 ·
  subst c5; have H1 : (some (t128 != 3)) = some r := by rw [if_pos rfl] at H; exact H
  clear H; have H := H1; clear H1; obtain rfl := Option.some.inj H; go_enter Tryz.func28, Tryz.ntmps28
  go_wp2_with (first | ((with_reducible refine gate_dst (N := 3) rfl ?_); refine box_event ?hg (N := 3) ?hd (cs := #[.int .i64 a0_0, .slice A0_1 l0_1.length c0_1, .slice A0_2 l0_2.length c0_2]) (t := 25) ?hr ?_; (case hd => rfl); (case hg => rfl); (case hr => go_simp; done); intro gb126 hg w6 hbox hb; have n0_ := Aside0.mk (below_step HB.out hb); have n1_ := Aside0.mk (hbox); have n2_ := Aside0.mk ((by rw [hg]; exact (below_size HB.out) : w.heap.size ≤ gb126)); clear HB; have HB := n0_; have BK126 := n1_; clear n0_ n1_ n2_ ; clear hb hbox hg; have hcz7_0 : w6.cell? ⟨gb126, 0, none⟩ = some (.int .i64 a0_0) := (blk_cell BK126.out 0).trans rfl; have hcz7_1 : w6.cell? ⟨gb126, 1, none⟩ = some (.slice A0_1 l0_1.length c0_1) := (blk_cell BK126.out 1).trans rfl; have hcz7_2 : w6.cell? ⟨gb126, 2, none⟩ = some (.slice A0_2 l0_2.length c0_2) := (blk_cell BK126.out 2).trans rfl) | ((with_reducible refine gate_callee (f := 29) rfl ?_); refine goesL_ (some 13) rfl rfl Tryz.func29 (by kernel_rfl) rfl #[.agg #[.int .i64 a0_0, .slice A0_1 l0_1.length c0_1, .slice A0_2 l0_2.length c0_2], .int .i64 a1, .int .i64 a2] rfl (by (try simp only [List.map_toArray, List.map_cons, List.map_nil]); rfl) ?_; (with_reducible refine (thermographref14_Find.calls k a0_0 _ _ l0_1 _ _ l0_2 a1 a2 t127 t128 t129 true _ ?side1 ?side2 ?side3 ?side4 A4.out).mono ?_); (case side1 => repeat (exact (Kd.C_below HR0_1.out HB.out))); (case side2 => exact HC0_1.out); (case side3 => repeat (exact (Kd.C_below HR0_2.out HB.out))); (case side4 => exact HC0_2.out); rintro e w8 ⟨rfl, hb⟩; refine ⟨_, rfl, ?_⟩; have n0_ := Aside0.mk (blk_below (g := gb126) (o := .cells #[.int .i64 a0_0, .slice A0_1 l0_1.length c0_1, .slice A0_2 l0_2.length c0_2] 25 (0, 0)) BK126.out hb); have n1_ := Aside0.mk (below_step HB.out hb); clear BK126; clear HB; have BK126 := n0_; have HB := n1_; clear n0_ n1_; (try clear hb); (try clear hb2); (try clear hk); (try clear hi)) | ((with_reducible refine gate_dst (N := 7) rfl ?_); refine box_event ?hg (N := 7) ?hd (cs := #[.int .i64 0, .int .i64 0, .int .i64 0]) (t := 57) ?hr ?_; (case hd => rfl); (case hg => rfl); (case hr => go_simp; done); intro gb131 hg w9 hbox hb; have n0_ := Aside0.mk (blk_below (g := gb126) (o := .cells #[.int .i64 a0_0, .slice A0_1 l0_1.length c0_1, .slice A0_2 l0_2.length c0_2] 25 (0, 0)) BK126.out hb); have n1_ := Aside0.mk (below_step HB.out hb); have n2_ := Aside0.mk (hbox); have n4_ := Aside0.mk ((by rw [hg]; exact (below_size HB.out) : w.heap.size ≤ gb131)); have n5_ := Aside0.mk ((by rw [hg]; exact Nat.ne_of_lt (blk_lt (g := gb126) (o := .cells #[.int .i64 a0_0, .slice A0_1 l0_1.length c0_1, .slice A0_2 l0_2.length c0_2] 25 (0, 0)) BK126.out) : gb126 ≠ gb131)); have n6_ := Aside0.mk ((by rw [hg]; exact Nat.ne_of_gt (blk_lt (g := gb126) (o := .cells #[.int .i64 a0_0, .slice A0_1 l0_1.length c0_1, .slice A0_2 l0_2.length c0_2] 25 (0, 0)) BK126.out) : gb131 ≠ gb126)); clear BK126; clear HB; have BK126 := n0_; have HB := n1_; have BK131 := n2_; have GE131 := n4_; have NB126_131 := n5_; have NB131_126 := n6_; clear n0_ n1_ n2_ n4_ n5_ n6_; clear hb hbox hg; have hcz11_0 : w9.cell? ⟨gb131, 0, none⟩ = some (.int .i64 0) := (blk_cell BK131.out 0).trans rfl; have hcz11_1 : w9.cell? ⟨gb131, 1, none⟩ = some (.int .i64 0) := (blk_cell BK131.out 1).trans rfl; have hcz11_2 : w9.cell? ⟨gb131, 2, none⟩ = some (.int .i64 0) := (blk_cell BK131.out 2).trans rfl; have hfz11_0 := blk_frozen BK131.out 0; have hfz11_1 := blk_frozen BK131.out 1; have hfz11_2 := blk_frozen BK131.out 2))
  go_ret; exact ⟨by rfl, by repeat ((with_reducible first | exact HB.out | refine below_set ?_ GE131.out))⟩
 ·
  replace c5 := Bool.eq_false_iff.mpr c5; subst c5; have H1 : (some false) = some r := by rw [if_neg (show ¬ (false = true) by decide)] at H; exact H
  clear H; have H := H1; clear H1; obtain rfl := Option.some.inj H; go_enter Tryz.func28, Tryz.ntmps28
  go_wp2_with (first | ((with_reducible refine gate_dst (N := 3) rfl ?_); refine box_event ?hg (N := 3) ?hd (cs := #[.int .i64 a0_0, .slice A0_1 l0_1.length c0_1, .slice A0_2 l0_2.length c0_2]) (t := 25) ?hr ?_; (case hd => rfl); (case hg => rfl); (case hr => go_simp; done); intro gb126 hg w12 hbox hb; have n0_ := Aside0.mk (below_step HB.out hb); have n1_ := Aside0.mk (hbox); have n2_ := Aside0.mk ((by rw [hg]; exact (below_size HB.out) : w.heap.size ≤ gb126)); clear HB; have HB := n0_; have BK126 := n1_; clear n0_ n1_ n2_ ; clear hb hbox hg; have hcz13_0 : w12.cell? ⟨gb126, 0, none⟩ = some (.int .i64 a0_0) := (blk_cell BK126.out 0).trans rfl; have hcz13_1 : w12.cell? ⟨gb126, 1, none⟩ = some (.slice A0_1 l0_1.length c0_1) := (blk_cell BK126.out 1).trans rfl; have hcz13_2 : w12.cell? ⟨gb126, 2, none⟩ = some (.slice A0_2 l0_2.length c0_2) := (blk_cell BK126.out 2).trans rfl) | ((with_reducible refine gate_callee (f := 29) rfl ?_); refine goesL_ (some 13) rfl rfl Tryz.func29 (by kernel_rfl) rfl #[.agg #[.int .i64 a0_0, .slice A0_1 l0_1.length c0_1, .slice A0_2 l0_2.length c0_2], .int .i64 a1, .int .i64 a2] rfl (by (try simp only [List.map_toArray, List.map_cons, List.map_nil]); rfl) ?_; (with_reducible refine (thermographref14_Find.calls k a0_0 _ _ l0_1 _ _ l0_2 a1 a2 t127 t128 t129 false _ ?side1 ?side2 ?side3 ?side4 A4.out).mono ?_); (case side1 => repeat (exact (Kd.C_below HR0_1.out HB.out))); (case side2 => exact HC0_1.out); (case side3 => repeat (exact (Kd.C_below HR0_2.out HB.out))); (case side4 => exact HC0_2.out); rintro e w14 ⟨rfl, hb⟩; refine ⟨_, rfl, ?_⟩; have n0_ := Aside0.mk (blk_below (g := gb126) (o := .cells #[.int .i64 a0_0, .slice A0_1 l0_1.length c0_1, .slice A0_2 l0_2.length c0_2] 25 (0, 0)) BK126.out hb); have n1_ := Aside0.mk (below_step HB.out hb); clear BK126; clear HB; have BK126 := n0_; have HB := n1_; clear n0_ n1_; (try clear hb); (try clear hb2); (try clear hk); (try clear hi)) | ((with_reducible refine gate_dst (N := 7) rfl ?_); refine box_event ?hg (N := 7) ?hd (cs := #[.int .i64 0, .int .i64 0, .int .i64 0]) (t := 57) ?hr ?_; (case hd => rfl); (case hg => rfl); (case hr => go_simp; done); intro gb131 hg w15 hbox hb; have n0_ := Aside0.mk (blk_below (g := gb126) (o := .cells #[.int .i64 a0_0, .slice A0_1 l0_1.length c0_1, .slice A0_2 l0_2.length c0_2] 25 (0, 0)) BK126.out hb); have n1_ := Aside0.mk (below_step HB.out hb); have n2_ := Aside0.mk (hbox); have n4_ := Aside0.mk ((by rw [hg]; exact (below_size HB.out) : w.heap.size ≤ gb131)); have n5_ := Aside0.mk ((by rw [hg]; exact Nat.ne_of_lt (blk_lt (g := gb126) (o := .cells #[.int .i64 a0_0, .slice A0_1 l0_1.length c0_1, .slice A0_2 l0_2.length c0_2] 25 (0, 0)) BK126.out) : gb126 ≠ gb131)); have n6_ := Aside0.mk ((by rw [hg]; exact Nat.ne_of_gt (blk_lt (g := gb126) (o := .cells #[.int .i64 a0_0, .slice A0_1 l0_1.length c0_1, .slice A0_2 l0_2.length c0_2] 25 (0, 0)) BK126.out) : gb131 ≠ gb126)); clear BK126; clear HB; have BK126 := n0_; have HB := n1_; have BK131 := n2_; have GE131 := n4_; have NB126_131 := n5_; have NB131_126 := n6_; clear n0_ n1_ n2_ n4_ n5_ n6_; clear hb hbox hg; have hcz17_0 : w15.cell? ⟨gb131, 0, none⟩ = some (.int .i64 0) := (blk_cell BK131.out 0).trans rfl; have hcz17_1 : w15.cell? ⟨gb131, 1, none⟩ = some (.int .i64 0) := (blk_cell BK131.out 1).trans rfl; have hcz17_2 : w15.cell? ⟨gb131, 2, none⟩ = some (.int .i64 0) := (blk_cell BK131.out 2).trans rfl; have hfz17_0 := blk_frozen BK131.out 0; have hfz17_1 := blk_frozen BK131.out 1; have hfz17_2 := blk_frozen BK131.out 2))
  go_ret; exact ⟨by rfl, by repeat ((with_reducible first | exact HB.out | refine below_set ?_ GE131.out))⟩
def thermographlaw18_large.l0 : Nat → Int → Int → Int → List Int → List (List (S57)) → Option (Bool)
 | 0, _, _, _, _, _ => none
 | k + 1, x3, x4, x133000, x133001, x133002 => if x4 < (x133002.length : Int) then (if x3 ≤ 1024 then (if 0 ≤ x4 then (thermographlaw18_large.l0 k (wrap64 (x3 + (mn ((rd_L4 x133002 x4).length : Int) 1048576))) (wrap64 (x4 + 1)) x133000 x133001 x133002) else (none)) else (some (decide (x3 > 1024)))) else (some (decide (x3 > 1024)))
def thermographlaw18_large.f (k : Nat) (a0_0 : Int) (l0_1 : List Int) (l0_2 : List (List (S57))) : Option (Bool) := thermographlaw18_large.l0 k (wrap64 ((l0_1.length : Int) + (l0_2.length : Int))) 0 a0_0 l0_1 l0_2
theorem thermographlaw18_large.calls (k : Nat) (a0_0 : Int) (A0_1 : Option Addr) (c0_1 : Nat) (l0_1 : List Int) (A0_2 : Option Addr) (c0_2 : Nat) (l0_2 : List (List (S57))) (r : Bool) (w : World) (hr0_1 : Kd.C (Kd.int .i64) w A0_1 l0_1.length l0_1) (hc0_1 : l0_1.length ≤ c0_1) (hr0_2 : Kd.C (Kd.slice 57 k57) w A0_2 l0_2.length l0_2) (hc0_2 : l0_2.length ≤ c0_2) (h : thermographlaw18_large.f k a0_0 l0_1 l0_2 = some r) :
  Calls Tryz.prog 5 #[.agg #[.int .i64 a0_0, .slice A0_1 l0_1.length c0_1, .slice A0_2 l0_2.length c0_2]] w fun e w' => e = .returned (.bool r) ∧ Below w.heap.size w w' := by
 clear hr0_1 hc0_1; have HR0_2 := Aside0.mk hr0_2; clear hr0_2 hc0_2; have HB := Aside0.mk (Below.refl w.heap.size w); have H : (thermographlaw18_large.l0 k (wrap64 ((l0_1.length : Int) + (l0_2.length : Int))) 0 a0_0 l0_1 l0_2) = some r := h; clear h; have H' := Aside0.mk H; clear H; go_enter Tryz.func5, Tryz.ntmps5
 go_wp2_with (((with_reducible refine gate_dst (N := 1) rfl ?_); refine box_event ?hg (N := 1) ?hd (cs := #[.int .i64 a0_0, .slice A0_1 l0_1.length c0_1, .slice A0_2 l0_2.length c0_2]) (t := 25) ?hr ?_; (case hd => rfl); (case hg => rfl); (case hr => go_simp; done); intro gb132 hg w2 hbox hb; have n0_ := Aside0.mk (below_step HB.out hb); have n1_ := Aside0.mk (hbox); clear HB; have HB := n0_; have BK132 := n1_; clear n0_ n1_ ; clear hb hbox hg; have hcz3_1 : w2.cell? ⟨gb132, 1, none⟩ = some (.slice A0_1 l0_1.length c0_1) := (blk_cell BK132.out 1).trans rfl; have hcz3_2 : w2.cell? ⟨gb132, 2, none⟩ = some (.slice A0_2 l0_2.length c0_2) := (blk_cell BK132.out 2).trans rfl))
 try go_frame
 go_loopg [3, 4] k (fun kq v3 v4 w' => ∃ (x3_1 : Int) (x4_1 : Int), v3 = .int .i64 x3_1 ∧ v4 = .int .i64 x4_1 ∧ Aside0 (thermographlaw18_large.l0 kq x3_1 x4_1 a0_0 l0_1 l0_2 = some r) ∧ Aside0 (kq ≤ k) ∧ Aside0 (w'.heap[gb132]? = some (.cells #[.int .i64 a0_0, (.slice A0_1 l0_1.length c0_1), (.slice A0_2 l0_2.length c0_2)] 25 (0, 0))) ∧ Aside0 (Below w.heap.size w w'))
 case atStart => exact ⟨(wrap64 ((l0_1.length : Int) + (l0_2.length : Int))), (0), (by rfl), (by rfl), H', ⟨Nat.le_refl _⟩, ⟨BK132.out⟩, ⟨HB.out⟩⟩
 case round =>
  clear H'; try clear hcz3_1
  try clear hcz3_2
  obtain ⟨x3_1, x4_1, rfl, rfl, HA, HK1, BK132, HB⟩ := hrel
  cases gk with
  | zero => exact absurd HA.out (by simp [thermographlaw18_large.l0])
  | succ k1 =>
   have H := HA.out; clear HA; simp only [thermographlaw18_large.l0] at H
   by_cases c4 : x4_1 < (l0_2.length : Int)
   ·
    rw [if_pos c4] at H; have c4b0 : decide (x4_1 < (l0_2.length : Int)) = true := decide_eq_true c4; clear c4
    by_cases c5 : x3_1 ≤ 1024
    ·
     rw [if_pos c5] at H; have c5b0 : decide (x3_1 ≤ 1024) = true := decide_eq_true c5; clear c5
     by_cases c6 : 0 ≤ x4_1
     ·
      rw [if_pos c6] at H; have c6b0 : decide (0 ≤ x4_1) = true := decide_eq_true c6; clear c6
      obtain ⟨ji7, hji7⟩ : ∃ j_ : Int, (mn ((rd_L4 l0_2 x4_1).length : Int) 1048576) = j_ := ⟨_, rfl⟩
      replace H : (thermographlaw18_large.l0 k1 (wrap64 (x3_1 + (ji7))) (wrap64 (x4_1 + 1)) a0_0 l0_1 l0_2) = some r := by (rw [hji7] at H; exact H)
      have hji7_ : (if 1048576 < ((rd_L4 l0_2 x4_1).length : Int) then 1048576 else ((rd_L4 l0_2 x4_1).length : Int)) = ji7 := hji7; have H' := Aside0.mk H; clear H; have hcz8_2 : wr.cell? ⟨gb132, 2, none⟩ = some (.slice A0_2 l0_2.length c0_2) := (blk_cell BK132.out 2).trans rfl; have p133 : 0 ≤ (x4_1 : Int) := of_decide_eq_true (by with_reducible assumption); have q133 : x4_1 < (l0_2.length : Int) := of_decide_eq_true (by with_reducible assumption); obtain ⟨ad133, A133_0, c133_0, e133, hx133_0, hl133_0, hi133_0⟩ := at_L4 HR0_2.out x4_1 p133 q133; cases e133; replace hx133_0 := (HB.out.cell (World.block_lt_of_cell? w _ hx133_0)).trans hx133_0; clear hi133_0 hl133_0; replace p133 := eq_true p133; replace q133 := eq_true q133; go_wp2; go_roundg k1
      case measure => have := HK1.out; omega
      case rel => exact ⟨(wrap64 (x3_1 + (ji7))), (wrap64 (x4_1 + 1)), (by rfl), (by rfl), H', ⟨by have := HK1.out; omega⟩, ⟨BK132.out⟩, ⟨HB.out⟩⟩
     ·
      rw [if_neg c6] at H; exact absurd H (by simp)
    ·
     rw [if_neg c5] at H; have c5b0 : decide (x3_1 ≤ 1024) = false := decide_eq_false c5; clear c5; obtain rfl := Option.some.inj H; have hcz9_2 : wr.cell? ⟨gb132, 2, none⟩ = some (.slice A0_2 l0_2.length c0_2) := (blk_cell BK132.out 2).trans rfl; go_wp2; go_ret; exact ⟨by rfl, by repeat ((with_reducible exact HB.out))⟩
   ·
    rw [if_neg c4] at H; have c4b0 : decide (x4_1 < (l0_2.length : Int)) = false := decide_eq_false c4; clear c4; obtain rfl := Option.some.inj H; have hcz10_2 : wr.cell? ⟨gb132, 2, none⟩ = some (.slice A0_2 l0_2.length c0_2) := (blk_cell BK132.out 2).trans rfl; go_wp2; go_ret; exact ⟨by rfl, by repeat ((with_reducible exact HB.out))⟩
mutual
def thermographlaw18_heavy.l0 : Nat → List (S40) → Int → Int → Option (Bool)
 | 0, _, _, _ => none
 | k + 1, x0, x3, x4 => if x4 < (x0.length : Int) then (thermographlaw18_heavy.j1 k x0 x3 x4 (decide (x3 ≤ 2048))) else (thermographlaw18_heavy.j1 k x0 x3 x4 false)
def thermographlaw18_heavy.j1 : Nat → List (S40) → Int → Int → Bool → Option (Bool)
 | 0, _, _, _, _ => none
 | k + 1, x0, x3, x4, x15 => if x15 = true then (if 0 ≤ x4 then (if x4 < (x0.length : Int) then (thermographlaw18_heavy.l1 k x0 (wrap64 (x3 + (mn (((rd_T40 x0 x4).f4).length : Int) 1048576))) x4 0) else (none)) else (none)) else (some (decide (x3 > 2048)))
def thermographlaw18_heavy.l1 : Nat → List (S40) → Int → Int → Int → Option (Bool)
 | 0, _, _, _, _ => none
 | k + 1, x0, x3, x4, x5 => if 0 ≤ x4 then (if x4 < (x0.length : Int) then (if x5 < (((rd_T40 x0 x4).f4).length : Int) then (if x3 ≤ 2048 then (if 0 ≤ x5 then (thermographlaw18_heavy.l1 k x0 (wrap64 (x3 + ((mn (((rd_T55 ((rd_T40 x0 x4).f4) x5).f0).size : Int) 1048576) + (mn (((rd_T55 ((rd_T40 x0 x4).f4) x5).f1).length : Int) 1048576)))) x4 (wrap64 (x5 + 1))) else (none)) else (thermographlaw18_heavy.l0 k x0 x3 (wrap64 (x4 + 1)))) else (thermographlaw18_heavy.l0 k x0 x3 (wrap64 (x4 + 1)))) else (none)) else (none)
end
def thermographlaw18_heavy.f (k : Nat) (l0 : List (S40)) : Option (Bool) := thermographlaw18_heavy.l0 k l0 (l0.length : Int) 0
theorem thermographlaw18_heavy.calls (k : Nat) (A0 : Option Addr) (c0 : Nat) (l0 : List (S40)) (r : Bool) (w : World) (hr0 : Kd.C k40 w A0 l0.length l0) (hc0 : l0.length ≤ c0) (h : thermographlaw18_heavy.f k l0 = some r) :
  Calls Tryz.prog 6 #[.slice A0 l0.length c0] w fun e w' => e = .returned (.bool r) ∧ Below w.heap.size w w' := by
 have HR0 := Aside0.mk hr0; clear hr0 hc0; have HB := Aside0.mk (Below.refl w.heap.size w); have H : (thermographlaw18_heavy.l0 k l0 (l0.length : Int) 0) = some r := h; clear h; have H' := Aside0.mk H; clear H; go_enter Tryz.func6, Tryz.ntmps6
 go_wp2; go_loopg [3, 4] k (fun kq v3 v4 w' => ∃ (x3_1 : Int) (x4_1 : Int), v3 = .int .i64 x3_1 ∧ v4 = .int .i64 x4_1 ∧ Aside0 (thermographlaw18_heavy.l0 kq l0 x3_1 x4_1 = some r) ∧ Aside0 (kq ≤ k) ∧ Aside0 (Below w.heap.size w w'))
 case atStart => exact ⟨((l0.length : Int)), (0), (by rfl), (by rfl), H', ⟨Nat.le_refl _⟩, ⟨HB.out⟩⟩
 case round =>
  clear H'; obtain ⟨x3_1, x4_1, rfl, rfl, HA, HK1, HB⟩ := hrel
  cases gk with
  | zero => exact absurd HA.out (by simp [thermographlaw18_heavy.l0])
  | succ k1 =>
   have H := HA.out; clear HA; simp only [thermographlaw18_heavy.l0] at H; have HC2 := Aside0.mk H; clear H
   go_upto_region 3 with (fail)
   go_cut [15] (fun v15 wc => ∃ (kq : Nat) (x15_1 : Bool), v15 = .bool x15_1 ∧ Aside0 (thermographlaw18_heavy.j1 kq l0 x3_1 x4_1 x15_1 = some r) ∧ Aside0 (kq ≤ k1) ∧ Aside0 (Below w.heap.size w wc))
   case first =>
    have H := HC2.out; clear HC2
    by_cases c3 : x4_1 < (l0.length : Int)
    ·
     rw [if_pos c3] at H; have c3b0 : decide (x4_1 < (l0.length : Int)) = true := decide_eq_true c3; clear c3
     ((skip))
     have H' := Aside0.mk H; clear H; go_wp2; go_meet
     case rel => exact ⟨_, (decide (x3_1 ≤ 2048)), (by rfl), H', ⟨by have := HK1.out; omega⟩, ⟨HB.out⟩⟩
    ·
     rw [if_neg c3] at H; have c3b0 : decide (x4_1 < (l0.length : Int)) = false := decide_eq_false c3; clear c3
     ((skip))
     have H' := Aside0.mk H; clear H; go_wp2; go_meet
     case rel => exact ⟨_, (false), (by rfl), H', ⟨by have := HK1.out; omega⟩, ⟨HB.out⟩⟩
   case rest =>
    clear HC2; obtain ⟨kq, x15_1, rfl, HA, HJ1, HB⟩ := hcut
    cases kq with
    | zero => exact absurd HA.out (by simp [thermographlaw18_heavy.j1])
    | succ kj1 =>
     have H := HA.out; clear HA; simp only [thermographlaw18_heavy.j1] at H
     by_cases c4 : x15_1 = true
     ·
      subst c4; have H1 : (if 0 ≤ x4_1 then (if x4_1 < (l0.length : Int) then (thermographlaw18_heavy.l1 kj1 l0 (wrap64 (x3_1 + (mn (((rd_T40 l0 x4_1).f4).length : Int) 1048576))) x4_1 0) else (none)) else (none)) = some r := by rw [if_pos rfl] at H; exact H
      clear H; have H := H1; clear H1
      by_cases c5 : 0 ≤ x4_1
      ·
       rw [if_pos c5] at H; have c5b0 : decide (0 ≤ x4_1) = true := decide_eq_true c5; clear c5
       by_cases c6 : x4_1 < (l0.length : Int)
       ·
        rw [if_pos c6] at H; have c6b0 : decide (x4_1 < (l0.length : Int)) = true := decide_eq_true c6; clear c6
        obtain ⟨ji7, hji7⟩ : ∃ j_ : Int, (mn (((rd_T40 l0 x4_1).f4).length : Int) 1048576) = j_ := ⟨_, rfl⟩
        replace H : (thermographlaw18_heavy.l1 kj1 l0 (wrap64 (x3_1 + (ji7))) x4_1 0) = some r := by (rw [hji7] at H; exact H)
        have hji7_ : (if 1048576 < (((rd_T40 l0 x4_1).f4).length : Int) then 1048576 else (((rd_T40 l0 x4_1).f4).length : Int)) = ji7 := hji7; have H' := Aside0.mk H; clear H; have p134 : 0 ≤ (x4_1 : Int) := of_decide_eq_true (by with_reducible assumption); have q134 : x4_1 < (l0.length : Int) := of_decide_eq_true (by with_reducible assumption); obtain ⟨ad134, A134_5, c134_5, e134, hx134_0, hx134_1, hx134_2, hx134_3, hx134_4, hx134_5, hl134_5, hi134_5⟩ := at_T40 HR0.out x4_1 p134 q134; cases e134; replace hx134_0 := (HB.out.cell (World.block_lt_of_cell? w _ hx134_0)).trans hx134_0; replace hx134_1 := (HB.out.cell (World.block_lt_of_cell? w _ hx134_1)).trans hx134_1; replace hx134_2 := (HB.out.cell (World.block_lt_of_cell? w _ hx134_2)).trans hx134_2; replace hx134_3 := (HB.out.cell (World.block_lt_of_cell? w _ hx134_3)).trans hx134_3; replace hx134_4 := (HB.out.cell (World.block_lt_of_cell? w _ hx134_4)).trans hx134_4; replace hx134_5 := (HB.out.cell (World.block_lt_of_cell? w _ hx134_5)).trans hx134_5; clear hi134_5 hl134_5; replace p134 := eq_true p134; replace q134 := eq_true q134; go_wp2; go_loopg [3, 5] kj1 (fun kq v3 v5 w' => ∃ (x3_3 : Int) (x5_3 : Int), v3 = .int .i64 x3_3 ∧ v5 = .int .i64 x5_3 ∧ Aside0 (thermographlaw18_heavy.l1 kq l0 x3_3 x4_1 x5_3 = some r) ∧ Aside0 (kq ≤ kj1) ∧ Aside0 (Below w.heap.size w w'))
        case atStart => exact ⟨(wrap64 (x3_1 + (ji7))), (0), (by rfl), (by rfl), H', ⟨Nat.le_refl _⟩, ⟨HB.out⟩⟩
        case round =>
         clear H'; try clear c5b0
         try clear c6b0
         try clear hx134_0
         try clear hx134_1
         try clear hx134_2
         try clear hx134_3
         try clear hx134_4
         try clear hx134_5
         try clear p134
         try clear q134
         obtain ⟨x3_3, x5_3, rfl, rfl, HA, HK3, HB⟩ := hrel
         cases gk with
         | zero => exact absurd HA.out (by simp [thermographlaw18_heavy.l1])
         | succ k3 =>
          have H := HA.out; clear HA; simp only [thermographlaw18_heavy.l1] at H
          by_cases c8 : 0 ≤ x4_1
          ·
           rw [if_pos c8] at H; have c8b0 : decide (0 ≤ x4_1) = true := decide_eq_true c8; clear c8
           by_cases c9 : x4_1 < (l0.length : Int)
           ·
            rw [if_pos c9] at H; have c9b0 : decide (x4_1 < (l0.length : Int)) = true := decide_eq_true c9; clear c9
            by_cases c10 : x5_3 < (((rd_T40 l0 x4_1).f4).length : Int)
            ·
             rw [if_pos c10] at H; have c10b0 : decide (x5_3 < (((rd_T40 l0 x4_1).f4).length : Int)) = true := decide_eq_true c10; clear c10
             by_cases c11 : x3_3 ≤ 2048
             ·
              rw [if_pos c11] at H; have c11b0 : decide (x3_3 ≤ 2048) = true := decide_eq_true c11; clear c11
              by_cases c12 : 0 ≤ x5_3
              ·
               rw [if_pos c12] at H; have c12b0 : decide (0 ≤ x5_3) = true := decide_eq_true c12; clear c12
               obtain ⟨ji13, hji13⟩ : ∃ j_ : Int, (mn (((rd_T55 ((rd_T40 l0 x4_1).f4) x5_3).f0).size : Int) 1048576) = j_ := ⟨_, rfl⟩
               replace H : (thermographlaw18_heavy.l1 k3 l0 (wrap64 (x3_3 + ((ji13) + (mn (((rd_T55 ((rd_T40 l0 x4_1).f4) x5_3).f1).length : Int) 1048576)))) x4_1 (wrap64 (x5_3 + 1))) = some r := by (rw [hji13] at H; exact H)
               have hji13_ : (if 1048576 < (((rd_T55 ((rd_T40 l0 x4_1).f4) x5_3).f0).size : Int) then 1048576 else (((rd_T55 ((rd_T40 l0 x4_1).f4) x5_3).f0).size : Int)) = ji13 := hji13
               obtain ⟨ji14, hji14⟩ : ∃ j_ : Int, (mn (((rd_T55 ((rd_T40 l0 x4_1).f4) x5_3).f1).length : Int) 1048576) = j_ := ⟨_, rfl⟩
               replace H : (thermographlaw18_heavy.l1 k3 l0 (wrap64 (x3_3 + ((ji13) + (ji14)))) x4_1 (wrap64 (x5_3 + 1))) = some r := by (rw [hji14] at H; exact H)
               have hji14_ : (if 1048576 < (((rd_T55 ((rd_T40 l0 x4_1).f4) x5_3).f1).length : Int) then 1048576 else (((rd_T55 ((rd_T40 l0 x4_1).f4) x5_3).f1).length : Int)) = ji14 := hji14; have H' := Aside0.mk H; clear H; have p135 : 0 ≤ (x4_1 : Int) := of_decide_eq_true (by with_reducible assumption); have q135 : x4_1 < (l0.length : Int) := of_decide_eq_true (by with_reducible assumption); obtain ⟨ad135, A135_5, c135_5, e135, hx135_0, hx135_1, hx135_2, hx135_3, hx135_4, hx135_5, hl135_5, hi135_5⟩ := at_T40 HR0.out x4_1 p135 q135
               obtain rfl : ad134 = ad135 := (by injection e135)
               replace hx135_0 := (HB.out.cell (World.block_lt_of_cell? w _ hx135_0)).trans hx135_0; replace hx135_1 := (HB.out.cell (World.block_lt_of_cell? w _ hx135_1)).trans hx135_1; replace hx135_2 := (HB.out.cell (World.block_lt_of_cell? w _ hx135_2)).trans hx135_2; replace hx135_3 := (HB.out.cell (World.block_lt_of_cell? w _ hx135_3)).trans hx135_3; replace hx135_4 := (HB.out.cell (World.block_lt_of_cell? w _ hx135_4)).trans hx135_4; replace hx135_5 := (HB.out.cell (World.block_lt_of_cell? w _ hx135_5)).trans hx135_5; have HR135_5 := Aside0.mk hi135_5; clear hi135_5 hl135_5; replace p135 := eq_true p135; replace q135 := eq_true q135; have p136 : 0 ≤ (x4_1 : Int) := of_decide_eq_true (by with_reducible assumption); have q136 : x4_1 < (l0.length : Int) := of_decide_eq_true (by with_reducible assumption); obtain ⟨ad136, A136_5, c136_5, e136, hx136_0, hx136_1, hx136_2, hx136_3, hx136_4, hx136_5, hl136_5, hi136_5⟩ := at_T40 HR0.out x4_1 p136 q136
               obtain rfl : ad134 = ad136 := (by injection e136)
               replace hx136_0 := (HB.out.cell (World.block_lt_of_cell? w _ hx136_0)).trans hx136_0; replace hx136_1 := (HB.out.cell (World.block_lt_of_cell? w _ hx136_1)).trans hx136_1; replace hx136_2 := (HB.out.cell (World.block_lt_of_cell? w _ hx136_2)).trans hx136_2; replace hx136_3 := (HB.out.cell (World.block_lt_of_cell? w _ hx136_3)).trans hx136_3; replace hx136_4 := (HB.out.cell (World.block_lt_of_cell? w _ hx136_4)).trans hx136_4; replace hx136_5 := (HB.out.cell (World.block_lt_of_cell? w _ hx136_5)).trans hx136_5; have HR136_5 := Aside0.mk hi136_5; have HC136_5 := Aside0.mk hl136_5; clear hi136_5 hl136_5; replace p136 := eq_true p136; replace q136 := eq_true q136; have ea_ := Option.some.inj (hx135_5.symm.trans hx136_5)
               injection ea_ with ea_ en_ ec_
               subst ea_; subst ec_; clear en_; have p137 : 0 ≤ (x5_3 : Int) := of_decide_eq_true (by with_reducible assumption); have q137 : x5_3 < (((rd_T40 l0 x4_1).f4).length : Int) := of_decide_eq_true (by with_reducible assumption); obtain ⟨ad137, A137_1, c137_1, e137, hx137_0, hx137_1, hl137_1, hi137_1⟩ := at_T55 HR136_5.out x5_3 p137 q137; cases e137; replace hx137_0 := (HB.out.cell (World.block_lt_of_cell? w _ hx137_0)).trans hx137_0; replace hx137_1 := (HB.out.cell (World.block_lt_of_cell? w _ hx137_1)).trans hx137_1; clear hi137_1 hl137_1; replace p137 := eq_true p137; replace q137 := eq_true q137; have p138 : 0 ≤ (x4_1 : Int) := of_decide_eq_true (by with_reducible assumption); have q138 : x4_1 < (l0.length : Int) := of_decide_eq_true (by with_reducible assumption); obtain ⟨ad138, A138_5, c138_5, e138, hx138_0, hx138_1, hx138_2, hx138_3, hx138_4, hx138_5, hl138_5, hi138_5⟩ := at_T40 HR0.out x4_1 p138 q138
               obtain rfl : ad134 = ad138 := (by injection e138)
               replace hx138_0 := (HB.out.cell (World.block_lt_of_cell? w _ hx138_0)).trans hx138_0; replace hx138_1 := (HB.out.cell (World.block_lt_of_cell? w _ hx138_1)).trans hx138_1; replace hx138_2 := (HB.out.cell (World.block_lt_of_cell? w _ hx138_2)).trans hx138_2; replace hx138_3 := (HB.out.cell (World.block_lt_of_cell? w _ hx138_3)).trans hx138_3; replace hx138_4 := (HB.out.cell (World.block_lt_of_cell? w _ hx138_4)).trans hx138_4; replace hx138_5 := (HB.out.cell (World.block_lt_of_cell? w _ hx138_5)).trans hx138_5; have HR138_5 := Aside0.mk hi138_5; have HC138_5 := Aside0.mk hl138_5; clear hi138_5 hl138_5; replace p138 := eq_true p138; replace q138 := eq_true q138; have ea_ := Option.some.inj (hx135_5.symm.trans hx138_5)
               injection ea_ with ea_ en_ ec_
               subst ea_; subst ec_; clear en_; have p139 : 0 ≤ (x5_3 : Int) := of_decide_eq_true (by with_reducible assumption); have q139 : x5_3 < (((rd_T40 l0 x4_1).f4).length : Int) := of_decide_eq_true (by with_reducible assumption); obtain ⟨ad139, A139_1, c139_1, e139, hx139_0, hx139_1, hl139_1, hi139_1⟩ := at_T55 HR138_5.out x5_3 p139 q139; cases e139; replace hx139_0 := (HB.out.cell (World.block_lt_of_cell? w _ hx139_0)).trans hx139_0; replace hx139_1 := (HB.out.cell (World.block_lt_of_cell? w _ hx139_1)).trans hx139_1; clear hi139_1 hl139_1; replace p139 := eq_true p139; replace q139 := eq_true q139; go_wp2; repeat (go_quiet (fail); try go_wp2)
               go_roundg k3
               case measure => have := HK1.out; have := HJ1.out; have := HK3.out; omega
               case rel => exact ⟨(wrap64 (x3_3 + ((ji13) + (ji14)))), (wrap64 (x5_3 + 1)), (by rfl), (by rfl), H', ⟨by have := HK1.out; have := HJ1.out; have := HK3.out; omega⟩, ⟨by repeat ((with_reducible first | exact HB.out | apply pw_below_drewN))⟩⟩
              ·
               rw [if_neg c12] at H; exact absurd H (by simp)
             ·
              rw [if_neg c11] at H; have c11b0 : decide (x3_3 ≤ 2048) = false := decide_eq_false c11; clear c11; have H' := Aside0.mk H; clear H; have p135 : 0 ≤ (x4_1 : Int) := of_decide_eq_true (by with_reducible assumption); have q135 : x4_1 < (l0.length : Int) := of_decide_eq_true (by with_reducible assumption); obtain ⟨ad135, A135_5, c135_5, e135, hx135_0, hx135_1, hx135_2, hx135_3, hx135_4, hx135_5, hl135_5, hi135_5⟩ := at_T40 HR0.out x4_1 p135 q135
              obtain rfl : ad134 = ad135 := (by injection e135)
              replace hx135_0 := (HB.out.cell (World.block_lt_of_cell? w _ hx135_0)).trans hx135_0; replace hx135_1 := (HB.out.cell (World.block_lt_of_cell? w _ hx135_1)).trans hx135_1; replace hx135_2 := (HB.out.cell (World.block_lt_of_cell? w _ hx135_2)).trans hx135_2; replace hx135_3 := (HB.out.cell (World.block_lt_of_cell? w _ hx135_3)).trans hx135_3; replace hx135_4 := (HB.out.cell (World.block_lt_of_cell? w _ hx135_4)).trans hx135_4; replace hx135_5 := (HB.out.cell (World.block_lt_of_cell? w _ hx135_5)).trans hx135_5; have HR135_5 := Aside0.mk hi135_5; clear hi135_5 hl135_5; replace p135 := eq_true p135; replace q135 := eq_true q135; go_wp2; go_roundg k3
              case measure => have := HK1.out; have := HJ1.out; have := HK3.out; omega
              case rel => exact ⟨(x3_3), (wrap64 (x4_1 + 1)), (by rfl), (by rfl), H', ⟨by have := HK1.out; have := HJ1.out; have := HK3.out; omega⟩, ⟨HB.out⟩⟩
            ·
             rw [if_neg c10] at H; have c10b0 : decide (x5_3 < (((rd_T40 l0 x4_1).f4).length : Int)) = false := decide_eq_false c10; clear c10; have H' := Aside0.mk H; clear H; have p135 : 0 ≤ (x4_1 : Int) := of_decide_eq_true (by with_reducible assumption); have q135 : x4_1 < (l0.length : Int) := of_decide_eq_true (by with_reducible assumption); obtain ⟨ad135, A135_5, c135_5, e135, hx135_0, hx135_1, hx135_2, hx135_3, hx135_4, hx135_5, hl135_5, hi135_5⟩ := at_T40 HR0.out x4_1 p135 q135
             obtain rfl : ad134 = ad135 := (by injection e135)
             replace hx135_0 := (HB.out.cell (World.block_lt_of_cell? w _ hx135_0)).trans hx135_0; replace hx135_1 := (HB.out.cell (World.block_lt_of_cell? w _ hx135_1)).trans hx135_1; replace hx135_2 := (HB.out.cell (World.block_lt_of_cell? w _ hx135_2)).trans hx135_2; replace hx135_3 := (HB.out.cell (World.block_lt_of_cell? w _ hx135_3)).trans hx135_3; replace hx135_4 := (HB.out.cell (World.block_lt_of_cell? w _ hx135_4)).trans hx135_4; replace hx135_5 := (HB.out.cell (World.block_lt_of_cell? w _ hx135_5)).trans hx135_5; have HR135_5 := Aside0.mk hi135_5; clear hi135_5 hl135_5; replace p135 := eq_true p135; replace q135 := eq_true q135; go_wp2; go_roundg k3
             case measure => have := HK1.out; have := HJ1.out; have := HK3.out; omega
             case rel => exact ⟨(x3_3), (wrap64 (x4_1 + 1)), (by rfl), (by rfl), H', ⟨by have := HK1.out; have := HJ1.out; have := HK3.out; omega⟩, ⟨HB.out⟩⟩
           ·
            rw [if_neg c9] at H; exact absurd H (by simp)
          ·
           rw [if_neg c8] at H; exact absurd H (by simp)
       ·
        rw [if_neg c6] at H; exact absurd H (by simp)
      ·
       rw [if_neg c5] at H; exact absurd H (by simp)
     ·
      replace c4 := Bool.eq_false_iff.mpr c4; subst c4; have H1 : (some (decide (x3_1 > 2048))) = some r := by rw [if_neg (show ¬ (false = true) by decide)] at H; exact H
      clear H; have H := H1; clear H1; obtain rfl := Option.some.inj H; go_wp2; go_ret; exact ⟨by rfl, by repeat ((with_reducible exact HB.out))⟩
def placement_isNode.f (a0 : Int) : Option (Bool) := if 0 ≤ a0 then (some (decide (a0 < 8))) else (some false)
theorem placement_isNode.calls (a0 : Int) (r : Bool) (w : World) (h : placement_isNode.f a0 = some r) :
  Calls Tryz.prog 48 #[.int .i64 a0] w fun e w' => e = .returned (.bool r) ∧ Drawn0 w w' := by
 have H : (if 0 ≤ a0 then (some (decide (a0 < 8))) else (some false)) = some r := h; clear h
 by_cases c2 : 0 ≤ a0
 ·
  rw [if_pos c2] at H; have c2b0 : decide (0 ≤ a0) = true := decide_eq_true c2; clear c2; obtain rfl := Option.some.inj H; go_enter Tryz.func48, Tryz.ntmps48
  go_wp2; go_ret; exact ⟨by rfl, by repeat (exact Drawn0.refl _)⟩
 ·
  rw [if_neg c2] at H; have c2b0 : decide (0 ≤ a0) = false := decide_eq_false c2; clear c2; obtain rfl := Option.some.inj H; go_enter Tryz.func48, Tryz.ntmps48
  go_wp2; go_ret; exact ⟨by rfl, by repeat (exact Drawn0.refl _)⟩
def placement_stays.f (a0_0 : Int) (a0_1 : Int) (a0_2 : Int) : Option (Bool) := some (a0_1 != 3)
theorem placement_stays.calls (a0_0 : Int) (a0_1 : Int) (a0_2 : Int) (r : Bool) (w : World) (h : placement_stays.f a0_0 a0_1 a0_2 = some r) :
  Calls Tryz.prog 77 #[.agg #[.int .i64 a0_0, .int .i64 a0_1, .int .i64 a0_2]] w fun e w' => e = .returned (.bool r) ∧ Below w.heap.size w w' := by
 have HB := Aside0.mk (Below.refl w.heap.size w); have H : (some (a0_1 != 3)) = some r := h; clear h; obtain rfl := Option.some.inj H; go_enter Tryz.func77, Tryz.ntmps77
 go_wp2_with (((with_reducible refine gate_dst (N := 1) rfl ?_); refine box_event ?hg (N := 1) ?hd (cs := #[.int .i64 a0_0, .int .i64 a0_1, .int .i64 a0_2]) (t := 57) ?hr ?_; (case hd => rfl); (case hg => rfl); (case hr => go_simp; done); intro gb140 hg w2 hbox hb; have n0_ := Aside0.mk (below_step HB.out hb); have n1_ := Aside0.mk (hbox); clear HB; have HB := n0_; have BK140 := n1_; clear n0_ n1_ ; clear hb hbox hg; have hcz3_1 : w2.cell? ⟨gb140, 1, none⟩ = some (.int .i64 a0_1) := (blk_cell BK140.out 1).trans rfl))
 go_ret; exact ⟨by rfl, by repeat ((with_reducible exact HB.out))⟩
def merge_Cut.l0 : Nat → List (S99) → List (S99) → Int → Int → Int → Int → Option ((List (S99)))
 | 0, _, _, _, _, _, _ => none
 | k + 1, x5, x8, x9, x10, x142000, x142001 => if x10 < x9 then (if 0 ≤ x10 then (if x10 < (x8.length : Int) then (if x142000 ≤ ((rd_T99 x8 x10).f0) then (if ((rd_T99 x8 x10).f0) < x142001 then (if x5.length < 5864062014805 then (merge_Cut.l0 k (x5 ++ [(⟨(rd_T99 x8 x10).f0, (rd_T99 x8 x10).f1, (rd_T99 x8 x10).f2⟩ : S99)]) x8 x9 (wrap64 (x10 + 1)) x142000 x142001) else (none)) else (merge_Cut.l0 k x5 x8 x9 (wrap64 (x10 + 1)) x142000 x142001)) else (merge_Cut.l0 k x5 x8 x9 (wrap64 (x10 + 1)) x142000 x142001)) else (none)) else (none)) else (some x5)
def merge_Cut.f (k : Nat) (l0 : List (S99)) (a1_0 : Int) (a1_1 : Int) : Option ((List (S99))) := merge_Cut.l0 k ([] : List (S99)) l0 (l0.length : Int) 0 a1_0 a1_1
theorem merge_Cut.calls (k : Nat) (A0 : Option Addr) (c0 : Nat) (l0 : List (S99)) (a1_0 : Int) (a1_1 : Int) (r : List (S99)) (w : World) (hr0 : Kd.C k99 w A0 l0.length l0) (hc0 : l0.length ≤ c0) (h : merge_Cut.f k l0 a1_0 a1_1 = some r) :
  Calls Tryz.prog 61 #[.slice A0 l0.length c0, .agg #[.int .i64 a1_0, .int .i64 a1_1]] w fun e w' => ∃ v0_ : Value, e = .returned (v0_) ∧ Kd.R k99 99 w' w.heap.size (fun _ => True) v0_ r ∧ Below w.heap.size w w' := by
 have HR0 := Aside0.mk hr0; clear hr0 hc0; have HB := Aside0.mk (Below.refl w.heap.size w); have H : (merge_Cut.l0 k ([] : List (S99)) l0 (l0.length : Int) 0 a1_0 a1_1) = some r := h; clear h; have H' := Aside0.mk H; clear H; go_enter Tryz.func61, Tryz.ntmps61
 go_wp2_with (((with_reducible refine gate_dst (N := 3) rfl ?_); refine box_event ?hg (N := 3) ?hd (cs := #[.int .i64 a1_0, .int .i64 a1_1]) (t := 27) ?hr ?_; (case hd => rfl); (case hg => rfl); (case hr => go_simp; done); intro gb141 hg w3 hbox hb; have n0_ := Aside0.mk (below_step HB.out hb); have n1_ := Aside0.mk (hbox); have n2_ := Aside0.mk ((by rw [hg]; exact (below_size HB.out) : w.heap.size ≤ gb141)); have n3_ := Aside0.mk ((by rw [hg]; exact (below_size HB.out) : w.heap.size ≤ gb141)); clear HB; have HB := n0_; have BK141 := n1_; clear n0_ n1_ n2_ n3_; clear hb hbox hg))
 try go_frame
 go_loopg [5, 10] k (fun kq v5 v10 w' => ∃ (x5_1 : List (S99)) (x10_1 : Int), v10 = .int .i64 x10_1 ∧ Aside0 (merge_Cut.l0 kq x5_1 l0 (l0.length : Int) x10_1 a1_0 a1_1 = some r) ∧ Aside0 (kq ≤ k) ∧ Aside0 (Kd.R k99 99 w' w.heap.size (fun _ => True) v5 x5_1) ∧ Aside0 (w'.heap[gb141]? = some (.cells #[.int .i64 a1_0, .int .i64 a1_1] 27 (0, 0))) ∧ Aside0 (Below w.heap.size w w'))
 case atStart => exact ⟨(([] : List (S99))), (0), (by rfl), H', ⟨Nat.le_refl _⟩, ⟨by exact Kd.R_nil _ _ _ _ _⟩, ⟨BK141.out⟩, ⟨HB.out⟩⟩
 case round =>
  clear H'; obtain ⟨x5_1, x10_1, rfl, HA, HK1, HO_5, BK141, HB⟩ := hrel
  cases gk with
  | zero => exact absurd HA.out (by simp [merge_Cut.l0])
  | succ k1 =>
   have H := HA.out; clear HA; simp only [merge_Cut.l0] at H
   by_cases c4 : x10_1 < (l0.length : Int)
   ·
    rw [if_pos c4] at H; have c4b0 : decide (x10_1 < (l0.length : Int)) = true := decide_eq_true c4; clear c4
    by_cases c5 : 0 ≤ x10_1
    ·
     rw [if_pos c5] at H; have c5b0 : decide (0 ≤ x10_1) = true := decide_eq_true c5; clear c5
     by_cases c6 : x10_1 < (l0.length : Int)
     ·
      rw [if_pos c6] at H; have c6b0 : decide (x10_1 < (l0.length : Int)) = true := decide_eq_true c6; clear c6
      by_cases c7 : a1_0 ≤ ((rd_T99 l0 x10_1).f0)
      ·
       rw [if_pos c7] at H; have c7b0 : decide (a1_0 ≤ ((rd_T99 l0 x10_1).f0)) = true := decide_eq_true c7; clear c7
       by_cases c8 : ((rd_T99 l0 x10_1).f0) < a1_1
       ·
        rw [if_pos c8] at H; have c8b0 : decide (((rd_T99 l0 x10_1).f0) < a1_1) = true := decide_eq_true c8; clear c8
        by_cases c9 : x5_1.length < 5864062014805
        ·
         rw [if_pos c9] at H; have LMc9 := Aside0.mk c9; clear c9
         obtain ⟨y144, hy144⟩ : ∃ y_ : List (S99), y_ = (x5_1 ++ [(⟨(rd_T99 l0 x10_1).f0, (rd_T99 l0 x10_1).f1, (rd_T99 l0 x10_1).f2⟩ : S99)]) := ⟨_, rfl⟩
         replace H : (merge_Cut.l0 k1 y144 l0 (l0.length : Int) (wrap64 (x10_1 + 1)) a1_0 a1_1) = some r := by (rw [hy144]; with_reducible exact H)
         have Ny144 := Aside0.mk hy144; clear hy144; have H' := Aside0.mk H; clear H; have p142 : 0 ≤ (x10_1 : Int) := of_decide_eq_true (by with_reducible assumption); have q142 : x10_1 < (l0.length : Int) := of_decide_eq_true (by with_reducible assumption); obtain ⟨ad142, e142, hx142_0, hx142_1, hx142_2⟩ := at_T99 HR0.out x10_1 p142 q142; cases e142; replace hx142_0 := (HB.out.cell (World.block_lt_of_cell? w _ hx142_0)).trans hx142_0; replace hx142_1 := (HB.out.cell (World.block_lt_of_cell? w _ hx142_1)).trans hx142_1; replace hx142_2 := (HB.out.cell (World.block_lt_of_cell? w _ hx142_2)).trans hx142_2; replace p142 := eq_true p142; replace q142 := eq_true q142
         go_wp2_with (first | ((with_reducible refine gate_dst (N := 7) rfl ?_); refine box_event ?hg (N := 7) ?hd (cs := #[.int .i64 0, .int .u64 0, .int .u64 0]) (t := 99) ?hr ?_; (case hd => rfl); (case hg => rfl); (case hr => go_simp; done); intro gb143 hg w10 hbox hb; have n0_ := Aside0.mk (Kd.R_below (Kd.R_elderB HO_5.out gb143 (Nat.le_of_eq hg.symm)) hb); have n1_ := Aside0.mk (blk_below (g := gb141) (o := .cells #[.int .i64 a1_0, .int .i64 a1_1] 27 (0, 0)) BK141.out hb); have n2_ := Aside0.mk (below_step HB.out hb); have n3_ := Aside0.mk (hbox); have n5_ := Aside0.mk ((by rw [hg]; exact (below_size HB.out) : w.heap.size ≤ gb143)); have n6_ := Aside0.mk ((by rw [hg]; exact Nat.ne_of_lt (blk_lt (g := gb141) (o := .cells #[.int .i64 a1_0, .int .i64 a1_1] 27 (0, 0)) BK141.out) : gb141 ≠ gb143)); have n7_ := Aside0.mk ((by rw [hg]; exact Nat.ne_of_gt (blk_lt (g := gb141) (o := .cells #[.int .i64 a1_0, .int .i64 a1_1] 27 (0, 0)) BK141.out) : gb143 ≠ gb141)); clear HO_5; clear BK141; clear HB; have HO_5 := n0_; have BK141 := n1_; have HB := n2_; have BK143 := n3_; have GE143 := n5_; have NB141_143 := n6_; have NB143_141 := n7_; clear n0_ n1_ n2_ n3_ n5_ n6_ n7_; clear hb hbox hg; have hnc11 := NB141_143.out; have hcz12_0 : w10.cell? ⟨gb143, 0, none⟩ = some (.int .i64 0) := (blk_cell BK143.out 0).trans rfl; have hcz12_1 : w10.cell? ⟨gb143, 1, none⟩ = some (.int .u64 0) := (blk_cell BK143.out 1).trans rfl; have hcz12_2 : w10.cell? ⟨gb143, 2, none⟩ = some (.int .u64 0) := (blk_cell BK143.out 2).trans rfl; have hfz12_0 := blk_frozen BK143.out 0; have hfz12_1 := blk_frozen BK143.out 1; have hfz12_2 := blk_frozen BK143.out 2; have hcz13_0 : w10.cell? ⟨gb141, 0, none⟩ = some (.int .i64 a1_0) := (blk_cell BK141.out 0).trans rfl; have hcz13_1 : w10.cell? ⟨gb141, 1, none⟩ = some (.int .i64 a1_1) := (blk_cell BK141.out 1).trans rfl) | ((with_reducible refine gate_builtin (b := .append) (xs := #[.tmp 26, .tmp 28]) rfl ?_); at_builtin; refine Kd.R_append k99 (w0 := w) w.heap.size rfl (.tmp 26) (.tmp 28) 53 99 (.agg #[(.int .i64 0), (.int .u64 0), (.int .u64 0)]) 24 rfl Tryz.underlying53 info99 rfl (by decide) (by omega) u5 x5_1 (⟨(rd_T99 l0 x10_1).f0, (rd_T99 l0 x10_1).f1, (rd_T99 l0 x10_1).f2⟩ : S99) [.int .i64 ((rd_T99 l0 x10_1).f0), .int .u64 ((rd_T99 l0 x10_1).f1), .int .u64 ((rd_T99 l0 x10_1).f2)] (fun k_ => k_ ≠ gb143) (fun _ => False) rfl (by (go_simp; done)) ?aP (fun _ hk => hk.elim) ?aF ?aO ?aB ?aS ?aL ?_; (case aP => exact k99_mkM _ _ _ (⟨(rd_T99 l0 x10_1).f0, (rd_T99 l0 x10_1).f1, (rd_T99 l0 x10_1).f2⟩ : S99)); (case aB => exact (by repeat ((with_reducible first | exact HB.out | refine below_set ?_ GE143.out)))); (case aF => exact (fun k_ hk => Kd.freshB (g := gb143) (o := .cells #[.int .i64 ((rd_T99 l0 x10_1).f0), .int .u64 ((rd_T99 l0 x10_1).f1), .int .u64 ((rd_T99 l0 x10_1).f2)] 99 (0, 0)) (by refine blk_put (cs := #[.int .i64 ((rd_T99 l0 x10_1).f0), .int .u64 ((rd_T99 l0 x10_1).f1), .int .u64 0]) ?_ 2 _ rfl; refine blk_put (cs := #[.int .i64 ((rd_T99 l0 x10_1).f0), .int .u64 0, .int .u64 0]) ?_ 1 _ rfl; refine blk_put (cs := #[.int .i64 0, .int .u64 0, .int .u64 0]) ?_ 0 _ rfl; exact BK143.out) k_ hk)); (case aO => exact (by exact Kd.R_mono (Kd.R_far (p := ⟨gb143, 2, none⟩) (Kd.R_far (p := ⟨gb143, 1, none⟩) (Kd.R_far (p := ⟨gb143, 0, none⟩) (Kd.R_mono HO_5.out (fun k_ hk => (⟨hk, hk.2⟩ : _ ∧ k_ ≠ gb143))) (fun _ hk => hk.2) (.int .i64 ((rd_T99 l0 x10_1).f0))) (fun _ hk => hk.2) (.int .u64 ((rd_T99 l0 x10_1).f1))) (fun _ hk => hk.2) (.int .u64 ((rd_T99 l0 x10_1).f2))) (fun _ hk => hk.1.2))); (case aS => exact (below_size (by repeat ((with_reducible first | exact HB.out | refine below_set ?_ GE143.out))))); (case aL => have := LMc9.out; omega); intro v145 w14 ho hb hg hat; rw [← Ny144.out] at ho; have n0_ := Aside0.mk (blk_grown (g := gb141) (o := .cells #[.int .i64 a1_0, .int .i64 a1_1] 27 (0, 0)) (by refine blk_far ?_ NB141_143.out _; refine blk_far ?_ NB141_143.out _; refine blk_far ?_ NB141_143.out _; exact BK141.out) hg (Kd.R_ne HO_5.out BK141.out (by decide))); have n1_ := Aside0.mk (blk_grown (g := gb143) (o := .cells #[.int .i64 ((rd_T99 l0 x10_1).f0), .int .u64 ((rd_T99 l0 x10_1).f1), .int .u64 ((rd_T99 l0 x10_1).f2)] 99 (0, 0)) (by refine blk_put (cs := #[.int .i64 ((rd_T99 l0 x10_1).f0), .int .u64 ((rd_T99 l0 x10_1).f1), .int .u64 0]) ?_ 2 _ rfl; refine blk_put (cs := #[.int .i64 ((rd_T99 l0 x10_1).f0), .int .u64 0, .int .u64 0]) ?_ 1 _ rfl; refine blk_put (cs := #[.int .i64 0, .int .u64 0, .int .u64 0]) ?_ 0 _ rfl; exact BK143.out) hg (Kd.R_away HO_5.out (fun _ hk => hk.2))); have n2_ := Aside0.mk (hb); have n3_ := Aside0.mk (ho); clear BK141; clear BK143; clear HB; clear HO_5; have BK141 := n0_; have BK143 := n1_; have HB := n2_; have HO146 := n3_; clear n0_ n1_ n2_ n3_; clear ho hb hg hat))
         go_roundg k1
         case measure => have := HK1.out; omega
         case rel => exact ⟨(y144), (wrap64 (x10_1 + 1)), (by rfl), H', ⟨by have := HK1.out; omega⟩, ⟨by exact Kd.R_mono HO146.out (fun _ hk => trivial)⟩, ⟨BK141.out⟩, ⟨HB.out⟩⟩
        ·
         rw [if_neg c9] at H; exact absurd H (by simp)
       ·
        rw [if_neg c8] at H; have c8b0 : decide (((rd_T99 l0 x10_1).f0) < a1_1) = false := decide_eq_false c8; clear c8; have H' := Aside0.mk H; clear H; have p142 : 0 ≤ (x10_1 : Int) := of_decide_eq_true (by with_reducible assumption); have q142 : x10_1 < (l0.length : Int) := of_decide_eq_true (by with_reducible assumption); obtain ⟨ad142, e142, hx142_0, hx142_1, hx142_2⟩ := at_T99 HR0.out x10_1 p142 q142; cases e142; replace hx142_0 := (HB.out.cell (World.block_lt_of_cell? w _ hx142_0)).trans hx142_0; replace hx142_1 := (HB.out.cell (World.block_lt_of_cell? w _ hx142_1)).trans hx142_1; replace hx142_2 := (HB.out.cell (World.block_lt_of_cell? w _ hx142_2)).trans hx142_2; replace p142 := eq_true p142; replace q142 := eq_true q142
        go_wp2_with (((with_reducible refine gate_dst (N := 7) rfl ?_); refine box_event ?hg (N := 7) ?hd (cs := #[.int .i64 0, .int .u64 0, .int .u64 0]) (t := 99) ?hr ?_; (case hd => rfl); (case hg => rfl); (case hr => go_simp; done); intro gb143 hg w15 hbox hb; have n0_ := Aside0.mk (Kd.R_below (Kd.R_elderB HO_5.out gb143 (Nat.le_of_eq hg.symm)) hb); have n1_ := Aside0.mk (blk_below (g := gb141) (o := .cells #[.int .i64 a1_0, .int .i64 a1_1] 27 (0, 0)) BK141.out hb); have n2_ := Aside0.mk (below_step HB.out hb); have n3_ := Aside0.mk (hbox); have n5_ := Aside0.mk ((by rw [hg]; exact (below_size HB.out) : w.heap.size ≤ gb143)); have n6_ := Aside0.mk ((by rw [hg]; exact Nat.ne_of_lt (blk_lt (g := gb141) (o := .cells #[.int .i64 a1_0, .int .i64 a1_1] 27 (0, 0)) BK141.out) : gb141 ≠ gb143)); have n7_ := Aside0.mk ((by rw [hg]; exact Nat.ne_of_gt (blk_lt (g := gb141) (o := .cells #[.int .i64 a1_0, .int .i64 a1_1] 27 (0, 0)) BK141.out) : gb143 ≠ gb141)); clear HO_5; clear BK141; clear HB; have HO_5 := n0_; have BK141 := n1_; have HB := n2_; have BK143 := n3_; have GE143 := n5_; have NB141_143 := n6_; have NB143_141 := n7_; clear n0_ n1_ n2_ n3_ n5_ n6_ n7_; clear hb hbox hg; have hnc16 := NB141_143.out; have hcz17_0 : w15.cell? ⟨gb143, 0, none⟩ = some (.int .i64 0) := (blk_cell BK143.out 0).trans rfl; have hcz17_1 : w15.cell? ⟨gb143, 1, none⟩ = some (.int .u64 0) := (blk_cell BK143.out 1).trans rfl; have hcz17_2 : w15.cell? ⟨gb143, 2, none⟩ = some (.int .u64 0) := (blk_cell BK143.out 2).trans rfl; have hfz17_0 := blk_frozen BK143.out 0; have hfz17_1 := blk_frozen BK143.out 1; have hfz17_2 := blk_frozen BK143.out 2; have hcz18_0 : w15.cell? ⟨gb141, 0, none⟩ = some (.int .i64 a1_0) := (blk_cell BK141.out 0).trans rfl; have hcz18_1 : w15.cell? ⟨gb141, 1, none⟩ = some (.int .i64 a1_1) := (blk_cell BK141.out 1).trans rfl))
        go_roundg k1
        case measure => have := HK1.out; omega
        case rel => exact ⟨(x5_1), (wrap64 (x10_1 + 1)), (by rfl), H', ⟨by have := HK1.out; omega⟩, ⟨by exact Kd.R_mono (Kd.R_far (p := ⟨gb143, 2, none⟩) (Kd.R_far (p := ⟨gb143, 1, none⟩) (Kd.R_far (p := ⟨gb143, 0, none⟩) (Kd.R_mono HO_5.out (fun k_ hk => (⟨hk, hk.2⟩ : _ ∧ k_ ≠ gb143))) (fun _ hk => hk.2) (.int .i64 ((rd_T99 l0 x10_1).f0))) (fun _ hk => hk.2) (.int .u64 ((rd_T99 l0 x10_1).f1))) (fun _ hk => hk.2) (.int .u64 ((rd_T99 l0 x10_1).f2))) (fun _ hk => trivial)⟩, ⟨by refine blk_far ?_ NB141_143.out _; refine blk_far ?_ NB141_143.out _; refine blk_far ?_ NB141_143.out _; exact BK141.out⟩, ⟨by repeat ((with_reducible first | exact HB.out | refine below_set ?_ GE143.out))⟩⟩
      ·
       rw [if_neg c7] at H; have c7b0 : decide (a1_0 ≤ ((rd_T99 l0 x10_1).f0)) = false := decide_eq_false c7; clear c7; have H' := Aside0.mk H; clear H; have p142 : 0 ≤ (x10_1 : Int) := of_decide_eq_true (by with_reducible assumption); have q142 : x10_1 < (l0.length : Int) := of_decide_eq_true (by with_reducible assumption); obtain ⟨ad142, e142, hx142_0, hx142_1, hx142_2⟩ := at_T99 HR0.out x10_1 p142 q142; cases e142; replace hx142_0 := (HB.out.cell (World.block_lt_of_cell? w _ hx142_0)).trans hx142_0; replace hx142_1 := (HB.out.cell (World.block_lt_of_cell? w _ hx142_1)).trans hx142_1; replace hx142_2 := (HB.out.cell (World.block_lt_of_cell? w _ hx142_2)).trans hx142_2; replace p142 := eq_true p142; replace q142 := eq_true q142
       go_wp2_with (((with_reducible refine gate_dst (N := 7) rfl ?_); refine box_event ?hg (N := 7) ?hd (cs := #[.int .i64 0, .int .u64 0, .int .u64 0]) (t := 99) ?hr ?_; (case hd => rfl); (case hg => rfl); (case hr => go_simp; done); intro gb143 hg w19 hbox hb; have n0_ := Aside0.mk (Kd.R_below (Kd.R_elderB HO_5.out gb143 (Nat.le_of_eq hg.symm)) hb); have n1_ := Aside0.mk (blk_below (g := gb141) (o := .cells #[.int .i64 a1_0, .int .i64 a1_1] 27 (0, 0)) BK141.out hb); have n2_ := Aside0.mk (below_step HB.out hb); have n3_ := Aside0.mk (hbox); have n5_ := Aside0.mk ((by rw [hg]; exact (below_size HB.out) : w.heap.size ≤ gb143)); have n6_ := Aside0.mk ((by rw [hg]; exact Nat.ne_of_lt (blk_lt (g := gb141) (o := .cells #[.int .i64 a1_0, .int .i64 a1_1] 27 (0, 0)) BK141.out) : gb141 ≠ gb143)); have n7_ := Aside0.mk ((by rw [hg]; exact Nat.ne_of_gt (blk_lt (g := gb141) (o := .cells #[.int .i64 a1_0, .int .i64 a1_1] 27 (0, 0)) BK141.out) : gb143 ≠ gb141)); clear HO_5; clear BK141; clear HB; have HO_5 := n0_; have BK141 := n1_; have HB := n2_; have BK143 := n3_; have GE143 := n5_; have NB141_143 := n6_; have NB143_141 := n7_; clear n0_ n1_ n2_ n3_ n5_ n6_ n7_; clear hb hbox hg; have hnc20 := NB141_143.out; have hcz21_0 : w19.cell? ⟨gb143, 0, none⟩ = some (.int .i64 0) := (blk_cell BK143.out 0).trans rfl; have hcz21_1 : w19.cell? ⟨gb143, 1, none⟩ = some (.int .u64 0) := (blk_cell BK143.out 1).trans rfl; have hcz21_2 : w19.cell? ⟨gb143, 2, none⟩ = some (.int .u64 0) := (blk_cell BK143.out 2).trans rfl; have hfz21_0 := blk_frozen BK143.out 0; have hfz21_1 := blk_frozen BK143.out 1; have hfz21_2 := blk_frozen BK143.out 2; have hcz22_0 : w19.cell? ⟨gb141, 0, none⟩ = some (.int .i64 a1_0) := (blk_cell BK141.out 0).trans rfl))
       go_roundg k1
       case measure => have := HK1.out; omega
       case rel => exact ⟨(x5_1), (wrap64 (x10_1 + 1)), (by rfl), H', ⟨by have := HK1.out; omega⟩, ⟨by exact Kd.R_mono (Kd.R_far (p := ⟨gb143, 2, none⟩) (Kd.R_far (p := ⟨gb143, 1, none⟩) (Kd.R_far (p := ⟨gb143, 0, none⟩) (Kd.R_mono HO_5.out (fun k_ hk => (⟨hk, hk.2⟩ : _ ∧ k_ ≠ gb143))) (fun _ hk => hk.2) (.int .i64 ((rd_T99 l0 x10_1).f0))) (fun _ hk => hk.2) (.int .u64 ((rd_T99 l0 x10_1).f1))) (fun _ hk => hk.2) (.int .u64 ((rd_T99 l0 x10_1).f2))) (fun _ hk => trivial)⟩, ⟨by refine blk_far ?_ NB141_143.out _; refine blk_far ?_ NB141_143.out _; refine blk_far ?_ NB141_143.out _; exact BK141.out⟩, ⟨by repeat ((with_reducible first | exact HB.out | refine below_set ?_ GE143.out))⟩⟩
     ·
      rw [if_neg c6] at H; exact absurd H (by simp)
    ·
     rw [if_neg c5] at H; exact absurd H (by simp)
   ·
    rw [if_neg c4] at H; have c4b0 : decide (x10_1 < (l0.length : Int)) = false := decide_eq_false c4; clear c4; obtain rfl := Option.some.inj H; go_wp2; go_ret; exact ⟨_, by rfl, by exact HO_5.out, by repeat ((with_reducible exact HB.out))⟩
end Go.Proofs.YtiinmagnpkfbbaaGreat.QT
