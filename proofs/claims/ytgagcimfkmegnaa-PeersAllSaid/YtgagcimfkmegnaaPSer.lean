/- The fetch: Series, New. -/
import Derived.Test.YtgagcimfkmegnaaGrow
section
set_option maxHeartbeats 8000000
set_option maxRecDepth 100000
namespace Go.Proofs.Ytgagcimfkmegnaa.QC
open Go.Proofs.Ytgagcimfkmegnaa.QT
open Go.RowKit Go.Proofs.YtgagcimfkmegnaaW.PrintWords Go.Proofs.YtgagcimfkmegnaaW.PrintLast Go.Proofs.YtgagcimfkmegnaaW.PrintMore
attribute [local go_sem] max2_int min2_int max_two min_two max_three min_three max_four min_four   -- for this text's walks alone
set_option linter.unusedVariables false
set_option linter.unusedSimpArgs false
mutual
def api_Point_51.l0 : Nat → List (List (S42)) → Int → List (List (S42)) → Int → Int → Option ((List (S42)))
 | 0, _, _, _, _, _ => none
 | k + 1, x0, x3, x9, x10, x11 => if x11 < x10 then (if 0 ≤ x11 then (if x11 < (x9.length : Int) then (if (wrap64 (x3 + ((rd_L6 x9 x11).length : Int))) < 0 then (none) else (api_Point_51.l0 k x0 (wrap64 (x3 + ((rd_L6 x9 x11).length : Int))) x9 x10 (wrap64 (x11 + 1)))) else (none)) else (none)) else (api_Point_51.l1 k (([] : List (S42))) x0 (x0.length : Int) 0)
def api_Point_51.l1 : Nat → List (S42) → List (List (S42)) → Int → Int → Option ((List (S42)))
 | 0, _, _, _, _ => none
 | k + 1, x6, x25, x26, x27 => if x27 < x26 then (if 0 ≤ x27 then (if x27 < (x25.length : Int) then (if x6.length + (rd_L6 x25 x27).length < 5864062014805 then (api_Point_51.l1 k (x6 ++ (rd_L6 x25 x27)) x25 x26 (wrap64 (x27 + 1))) else (none)) else (none)) else (none)) else (some x6)
end
def api_Point_51.f (k : Nat) (l0 : List (List (S42))) : Option ((List (S42))) := api_Point_51.l0 k l0 0 l0 (l0.length : Int) 0
theorem sum_take_le (l : List (List (S42))) : ∀ n : Nat, ((l.take n).map List.length).sum ≤ (l.map List.length).sum := by
 intro n; have e : l = l.take n ++ l.drop n := (List.take_append_drop n l).symm; have e2 := congrArg (fun z => (List.map List.length z).sum) e; simp only [List.map_append, List.sum_append] at e2; omega
theorem sum_take_succ (l : List (List (S42))) (i : Int) (h0 : 0 ≤ i) (h1 : i < (l.length : Int)) : ((l.take (i + 1).toNat).map List.length).sum = ((l.take i.toNat).map List.length).sum + (rd_L6 l i).length := by
 have h2 : i.toNat < l.length := by omega
 rw [show (i + 1).toNat = i.toNat + 1 from by omega, List.take_add_one, List.getElem?_eq_getElem h2]; simp only [Option.toList_some, List.map_append, List.map_cons, List.map_nil, List.sum_append, List.sum_cons, List.sum_nil]; unfold rd_L6; rw [List.getD_eq_getElem?_getD, List.getElem?_eq_getElem h2]; simp
theorem api_Point_51.calls (k : Nat) (A0 : Option Addr) (c0 : Nat) (l0 : List (List (S42))) (r : List (S42)) (w : World) (hr0 : Kd.C (Kd.slice 42 k42) w A0 l0.length l0) (hc0 : l0.length ≤ c0) (hS : (l0.map List.length).sum ≤ 1099511627776) (h : api_Point_51.f k l0 = some r) :
  Calls Try.prog 51 #[.slice A0 l0.length c0] w fun e w' => ∃ v0_ : Value, e = .returned (v0_) ∧ Kd.R k42 42 w' w.heap.size (fun _ => True) v0_ r ∧ Below w.heap.size w w' := by
 have HR0 := Aside0.mk hr0; clear hr0 hc0; have HS := Aside0.mk hS; clear hS; have HB := Aside0.mk (Below.refl w.heap.size w); have H : (api_Point_51.l0 k l0 0 l0 (l0.length : Int) 0) = some r := h; clear h; have H' := Aside0.mk H; clear H; go_enter Try.func51, Try.ntmps51
 go_wp2; go_loopg [3, 11] k (fun kq v3 v11 w' => ∃ (x3_1 : Int) (x11_1 : Int), v3 = .int .i64 x3_1 ∧ v11 = .int .i64 x11_1 ∧ Aside0 (api_Point_51.l0 kq l0 x3_1 l0 (l0.length : Int) x11_1 = some r) ∧ Aside0 (kq ≤ k) ∧ Aside0 (Below w.heap.size w w') ∧ Aside0 (0 ≤ x11_1 ∧ x11_1 ≤ (l0.length : Int) ∧ x3_1 = ((((l0.take x11_1.toNat).map List.length).sum : Nat) : Int)))
 case atStart => exact ⟨(0), (0), (by rfl), (by rfl), H', ⟨Nat.le_refl _⟩, ⟨HB.out⟩, ⟨⟨by omega, by omega, by simp⟩⟩⟩
 case round =>
  clear H'; obtain ⟨x3_1, x11_1, rfl, rfl, HA, HK1, HB, HZ⟩ := hrel
  cases gk with
  | zero => exact absurd HA.out (by simp [api_Point_51.l0])
  | succ k1 =>
   have H := HA.out; clear HA; simp only [api_Point_51.l0] at H
   by_cases c2 : x11_1 < (l0.length : Int)
   ·
    rw [if_pos c2] at H; have c2b0 : decide (x11_1 < (l0.length : Int)) = true := decide_eq_true c2; clear c2
    by_cases c3 : 0 ≤ x11_1
    ·
     rw [if_pos c3] at H; have c3b0 : decide (0 ≤ x11_1) = true := decide_eq_true c3; clear c3
     by_cases c4 : x11_1 < (l0.length : Int)
     ·
      rw [if_pos c4] at H; have c4b0 : decide (x11_1 < (l0.length : Int)) = true := decide_eq_true c4; clear c4
      by_cases c5 : (wrap64 (x3_1 + ((rd_L6 l0 x11_1).length : Int))) < 0
      ·
       rw [if_pos c5] at H; exact absurd H (by simp)
      ·
       rw [if_neg c5] at H; have c5b0 : decide ((wrap64 (x3_1 + ((rd_L6 l0 x11_1).length : Int))) < 0) = false := decide_eq_false c5; clear c5; have H' := Aside0.mk H; clear H; have p101 : 0 ≤ (x11_1 : Int) := of_decide_eq_true (by with_reducible assumption); have q101 : x11_1 < (l0.length : Int) := of_decide_eq_true (by with_reducible assumption); obtain ⟨ad101, A101_0, c101_0, e101, hx101_0, hl101_0, hi101_0⟩ := at_L6 HR0.out x11_1 p101 q101; cases e101; replace hx101_0 := (HB.out.cell (World.block_lt_of_cell? w _ hx101_0)).trans hx101_0; clear hi101_0 hl101_0; replace p101 := eq_true p101; replace q101 := eq_true q101; go_wp2; go_roundg k1
       case measure => have := HK1.out; omega
       case rel => exact ⟨(wrap64 (x3_1 + ((rd_L6 l0 x11_1).length : Int))), (wrap64 (x11_1 + 1)), (by rfl), (by rfl), H', ⟨by have := HK1.out; omega⟩, ⟨HB.out⟩, ⟨by have h1_ := HZ.out; have h2_ := HS.out; have h3_ : x11_1 < (l0.length : Int) := of_decide_eq_true (by with_reducible assumption); have h4_ := sum_take_succ l0 x11_1 h1_.1 h3_; have h5_ := sum_take_le l0 (x11_1 + 1).toNat; have h6_ := Kd.C_max HR0.out; rw [show wrap64 (x11_1 + 1) = x11_1 + 1 from by unfold wrap64; omega, show wrap64 (x3_1 + ((rd_L6 l0 x11_1).length : Int)) = x3_1 + ((rd_L6 l0 x11_1).length : Int) from by unfold wrap64; omega]; exact ⟨by omega, by omega, by omega⟩⟩⟩
     ·
      rw [if_neg c4] at H; exact absurd H (by simp)
    ·
     rw [if_neg c3] at H; exact absurd H (by simp)
   ·
    rw [if_neg c2] at H; have c2b0 : decide (x11_1 < (l0.length : Int)) = false := decide_eq_false c2; clear c2
    obtain ⟨y102, hy102⟩ : ∃ y_ : List (S42), y_ = (([] : List (S42))) := ⟨_, rfl⟩
    replace H : (api_Point_51.l1 k1 y102 l0 (l0.length : Int) 0) = some r := by (rw [hy102]; with_reducible exact H)
    have Ny102 := Aside0.mk hy102; clear hy102; have H' := Aside0.mk H; clear H; have hz_ : 0 ≤ x3_1 ∧ x3_1 ≤ 1099511627776 := by have h1_ := HZ.out; have h2_ := HS.out; have h5_ := sum_take_le l0 x11_1.toNat; omega
    have HG := Aside0.mk (fun w => grow_nil x3_1 hz_.1 hz_.2 w); clear hz_; go_wp2_with fail
    with_reducible refine (HG.out _).mono ?_
    rintro e w6 ⟨v6_, rfl, hR6, hB6⟩; have HO104 := Aside0.mk (show Kd.R k42 42 w6 w.heap.size (fun _ => True) v6_ y102 from by rw [Ny102.out]; exact Kd.R_lower hR6 HB.out.size); have HB' := Aside0.mk (below_then HB.out HB.out.size hB6); clear HB hR6 hB6; have HB := HB'; clear HB'; go_wp2; try go_frame
    go_loopg [6, 27] k1 (fun kq v6 v27 w' => ∃ (x6_2 : List (S42)) (x27_2 : Int), v27 = .int .i64 x27_2 ∧ Aside0 (api_Point_51.l1 kq x6_2 l0 (l0.length : Int) x27_2 = some r) ∧ Aside0 (kq ≤ k1) ∧ Aside0 (Kd.R k42 42 w' w.heap.size (fun _ => True) v6 x6_2) ∧ Aside0 (Below w.heap.size w w'))
    case atStart => exact ⟨(y102), (0), (by rfl), H', ⟨Nat.le_refl _⟩, ⟨HO104.out⟩, ⟨HB.out⟩⟩
    case round =>
     clear H'; try clear c2b0
     obtain ⟨x6_2, x27_2, rfl, HA, HK2, HO_6, HB⟩ := hrel
     cases gk with
     | zero => exact absurd HA.out (by simp [api_Point_51.l1])
     | succ k2 =>
      have H := HA.out; clear HA; simp only [api_Point_51.l1] at H
      by_cases c8 : x27_2 < (l0.length : Int)
      ·
       rw [if_pos c8] at H; have c8b0 : decide (x27_2 < (l0.length : Int)) = true := decide_eq_true c8; clear c8
       by_cases c9 : 0 ≤ x27_2
       ·
        rw [if_pos c9] at H; have c9b0 : decide (0 ≤ x27_2) = true := decide_eq_true c9; clear c9
        by_cases c10 : x27_2 < (l0.length : Int)
        ·
         rw [if_pos c10] at H; have c10b0 : decide (x27_2 < (l0.length : Int)) = true := decide_eq_true c10; clear c10
         by_cases c11 : x6_2.length + (rd_L6 l0 x27_2).length < 5864062014805
         ·
          rw [if_pos c11] at H; have LMc11 := Aside0.mk c11; clear c11
          obtain ⟨y106, hy106⟩ : ∃ y_ : List (S42), y_ = (x6_2 ++ (rd_L6 l0 x27_2)) := ⟨_, rfl⟩
          replace H : (api_Point_51.l1 k2 y106 l0 (l0.length : Int) (wrap64 (x27_2 + 1))) = some r := by (rw [hy106]; with_reducible exact H)
          have Ny106 := Aside0.mk hy106; clear hy106; have H' := Aside0.mk H; clear H; have p105 : 0 ≤ (x27_2 : Int) := of_decide_eq_true (by with_reducible assumption); have q105 : x27_2 < (l0.length : Int) := of_decide_eq_true (by with_reducible assumption); obtain ⟨ad105, A105_0, c105_0, e105, hx105_0, hl105_0, hi105_0⟩ := at_L6 HR0.out x27_2 p105 q105; cases e105; replace hx105_0 := (HB.out.cell (World.block_lt_of_cell? w _ hx105_0)).trans hx105_0; have HR105_0 := Aside0.mk hi105_0; clear hi105_0 hl105_0; replace p105 := eq_true p105; replace q105 := eq_true q105
          go_wp2_with (((with_reducible refine gate_builtin (b := .append) (xs := #[.tmp 31, .tmp 32]) rfl ?_); at_builtin; refine Kd.R_append_rows k42 (w0 := w) w.heap.size rfl (.tmp 31) (.tmp 32) 44 42 (.agg #[(.int .i64 0), (.int .u64 0), (.int .u64 0)]) 24 rfl Try.underlying44 info42 rfl (by decide) (by omega) u6 x6_2 (rd_L6 l0 x27_2) _ _ _ (fun _ => True) (fun _ => False) rfl rfl ?aO ?aR (fun _ _ h => h) (fun _ h => h.elim) ?aF ?aB ?aS ?aL ?_; (case aR => repeat (exact (Kd.C_below HR105_0.out HB.out))); (case aB => exact HB.out); (case aF => exact (fun _ _ => trivial)); (case aO => exact HO_6.out); (case aS => exact (below_size HB.out)); (case aL => have := LMc11.out; omega); intro v107 w12 ho hb hg hat; rw [← Ny106.out] at ho; have n0_ := Aside0.mk (hb); have n1_ := Aside0.mk (ho); clear HB; clear HO_6; have HB := n0_; have HO108 := n1_; clear n0_ n1_; clear ho hb hg hat))
          go_roundg k2
          case measure => have := HK1.out; have := HK2.out; omega
          case rel => exact ⟨(y106), (wrap64 (x27_2 + 1)), (by rfl), H', ⟨by have := HK1.out; have := HK2.out; omega⟩, ⟨HO108.out⟩, ⟨HB.out⟩⟩
         ·
          rw [if_neg c11] at H; exact absurd H (by simp)
        ·
         rw [if_neg c10] at H; exact absurd H (by simp)
       ·
        rw [if_neg c9] at H; exact absurd H (by simp)
      ·
       rw [if_neg c8] at H; have c8b0 : decide (x27_2 < (l0.length : Int)) = false := decide_eq_false c8; clear c8; obtain rfl := Option.some.inj H; go_wp2; go_ret; exact ⟨_, by rfl, by exact HO_6.out, by repeat ((with_reducible exact HB.out))⟩
end Go.Proofs.Ytgagcimfkmegnaa.QC
end
section
set_option maxHeartbeats 4000000
set_option maxRecDepth 100000
namespace Go.Proofs.Ytgagcimfkmegnaa
open Go.RowKit Go.Proofs.YtgagcimfkmegnaaW.PrintWords
theorem insertion_nil (f : Value) (w : World) : Calls Try.prog 84 #[.slice none 0 0, .int .i64 0, .int .i64 0, f] w fun e w' => e = .returned (.tuple #[]) ∧ Below w.heap.size w w' := by
 have H0 := Lib.hid (Below.refl w.heap.size w); go_enter Try.func84, Try.ntmps84
 go_wp2; go_loopg [8] 1 (fun gg s8 wr => s8 = .int .i64 1 ∧ Hid (Below w.heap.size w wr))
 case atStart => exact ⟨rfl, H0⟩
 case round =>
  obtain ⟨rfl, H⟩ := hrel; go_wp2; go_end0; exact ⟨rfl, H.out⟩
theorem pdq_nil (f : Value) (lim : Int) (w : World) : Calls Try.prog 69 #[.slice none 0 0, .int .i64 0, .int .i64 0, .int .i64 lim, f] w fun e w' => e = .returned (.tuple #[]) ∧ Below w.heap.size w w' := by
 have H0 := Lib.hid (Below.refl w.heap.size w); have HI := Lib.hid (fun w => insertion_nil f w); go_enter Try.func69, Try.ntmps69
 go_wp2; go_loopg [1, 2] 1 (fun gg s1 s2 wr => s1 = .int .i64 0 ∧ s2 = .int .i64 0 ∧ Hid (Below w.heap.size w wr))
 case atStart => exact ⟨rfl, rfl, H0⟩
 case round =>
  obtain ⟨rfl, rfl, H⟩ := hrel; go_wp2_with fail
  with_reducible refine (HI.out _).mono ?_
  rintro e w1 ⟨rfl, hb1⟩; have HB := Lib.hid (below_then H.out H.out.size hb1); clear hb1; go_wp2; refine bodyPost_ret (results_none rfl _ _ _) rfl ?_; exact ⟨rfl, HB.out⟩
theorem sort_nil (f : Value) (w : World) : Calls Try.prog 52 #[.slice none 0 0, f] w fun e w' => e = .returned (.tuple #[]) ∧ Below w.heap.size w w' := by
 have hl : Calls Try.prog 67 #[.int .u64 0] w fun e w' => e = .returned (.int .i64 (Lib.bitLen 0 : Nat)) ∧ w' = w := by
  have h := Any.bits_Len (SlLaysF0.n15.bits (P := Try.prog) (ρ := Try.sortPoint_ren) { Try.sortPoint with }) (0 : Int) w (by omega) (by omega); exact h
 have HL := Lib.hid hl; have HP := Lib.hid (fun lim w => pdq_nil f lim w); clear hl; go_enter Try.func52, Try.ntmps52
 go_wp2_with fail
 with_reducible refine HL.out.mono ?_
 rintro e w1 ⟨rfl, rfl⟩; go_wp2_with fail
 with_reducible refine (HP.out _ _).mono ?_
 rintro e w2 ⟨rfl, hb⟩; have HB := Lib.hid hb; clear hb; go_wp2; go_end0; exact ⟨rfl, HB.out⟩
open Go.Proofs.YtgagcimfkmegnaaW.PrintLast Go.Proofs.YtgagcimfkmegnaaW.PrintMore Go.Proofs.Ytgagcimfkmegnaa.QT in
/-- SortFunc at a row, nil or not. -/
theorem sort_any (base : Nat) (P0 : Nat → Prop) (v : Value) (l : List S42) (w : World) (hR : Kd.R k42 42 w base P0 v l) (hb : l.length < 4611686018427387904) :
  Calls Try.prog 52 #[v, .func (.func 53) #[] #[]] w fun e w' => e = .returned (.tuple #[]) ∧ Kd.R k42 42 w' base P0 v (srtA l) ∧ w.grownBy w' v.ownBlock := by
 obtain ⟨inner, ho⟩ := Kd.R_own hR
 rcases ho with ⟨_, ⟨rfl, h0⟩ | ⟨gb, cap, cur, rfl, _⟩⟩
 ·
  have hl := List.eq_nil_of_length_eq_zero h0; subst hl
  exact (sort_nil _ w).mono fun e w' ⟨he, hb⟩ => ⟨he, Kd.R_nil _ _ _ _ _, grown_of_below hb _⟩
 ·
  exact (sort_row base gb l.length cap P0 l w hR hb).mono fun e w' ⟨he, hR', hg⟩ => ⟨he, hR', hg⟩
end Go.Proofs.Ytgagcimfkmegnaa
end
section
set_option maxHeartbeats 1000000
namespace Go.Proofs.Ytgagcimfkmegnaa
set_option linter.unusedVariables false
set_option linter.unusedSimpArgs false
open Go.RowKit Go.Proofs.YtgagcimfkmegnaaW.PrintWords Go.Proofs.YtgagcimfkmegnaaW.PrintLast Go.Proofs.YtgagcimfkmegnaaW.PrintMore Go.Proofs.Ytgagcimfkmegnaa.QT
namespace Mg
abbrev Pt := S42
theorem rd_at (P S : List (List Pt)) (x : List Pt) (i : Int) (hi : i = P.length) : rd_L6 (P ++ x :: S) i = x := by
 subst hi; unfold rd_L6; simp
theorem concat_l1 : ∀ (R P : List (List Pt)) (acc : List Pt) (l : List (List Pt)), l = P ++ R → acc = P.flatten → (l.map List.length).sum ≤ 1099511627776 → l.length ≤ 1099511627776 →
  Ev (fun k => QC.api_Point_51.l1 k acc l l.length (P.length : Int)) l.flatten
 | [], P, acc, l, hl, ha, hs, hn => by
  simp only [List.append_nil] at hl; subst hl; subst ha; refine Ev.step (f := fun _ => some l.flatten) (fun k => ?_) (Ev.now _)
  rw [QC.api_Point_51.l1, if_neg (by omega)]
 | x :: R, P, acc, l, hl, ha, hs, hn => by
  have e := rd_at P R x (P.length : Int) rfl; have hln : l.length = P.length + R.length + 1 := by rw [hl]; simp; omega
  have hsum : P.flatten.length + x.length ≤ (l.map List.length).sum := by
   rw [hl]; simp only [List.length_flatten, List.map_append, List.map_cons, List.sum_append, List.sum_cons]; omega
  have ih := concat_l1 R (P ++ [x]) (acc ++ x) l (by rw [hl]; simp) (by rw [ha]; simp) hs hn; rw [List.length_append, List.length_singleton] at ih; refine Ev.step (fun k => ?_) ih; rw [QC.api_Point_51.l1, if_pos (by omega), if_pos (by omega), if_pos (by omega), hl, e, if_pos (by rw [ha]; omega)]; rw [show wrap64 ((P.length : Int) + 1) = ((P.length + 1 : Nat) : Int) from by unfold wrap64; omega]
theorem concat_l0 : ∀ (R P : List (List Pt)) (l : List (List Pt)), l = P ++ R → (l.map List.length).sum ≤ 1099511627776 → l.length ≤ 1099511627776 →
  Ev (fun k => QC.api_Point_51.l0 k l (((P.map List.length).sum : Nat) : Int) l l.length (P.length : Int)) l.flatten
 | [], P, l, hl, hs, hn => by
  simp only [List.append_nil] at hl; have h1 := concat_l1 l [] [] l rfl rfl hs hn; refine Ev.step (fun k => ?_) h1; subst hl; rw [QC.api_Point_51.l0, if_neg (by omega)]
  rfl
 | x :: R, P, l, hl, hs, hn => by
  have e := rd_at P R x (P.length : Int) rfl; have hln : l.length = P.length + R.length + 1 := by rw [hl]; simp; omega
  have hsum : (P.map List.length).sum + x.length ≤ (l.map List.length).sum := by
   rw [hl]; simp only [List.map_append, List.map_cons, List.sum_append, List.sum_cons]; omega
  have ih := concat_l0 R (P ++ [x]) l (by rw [hl]; simp) hs hn; rw [List.length_append, List.length_singleton, List.map_append, List.map_singleton, List.sum_append, List.sum_singleton] at ih; refine Ev.step (fun k => ?_) ih; rw [QC.api_Point_51.l0, if_pos (by omega), if_pos (by omega), if_pos (by omega), hl, e]; rw [show wrap64 ((((P.map List.length).sum : Nat) : Int) + (x.length : Int)) = (((P.map List.length).sum + x.length : Nat) : Int) from by unfold wrap64; omega, if_neg (by omega)]; rw [show wrap64 ((P.length : Int) + 1) = ((P.length + 1 : Nat) : Int) from by unfold wrap64; omega]
theorem concat_ev (l : List (List Pt)) (hs : (l.map List.length).sum ≤ 1099511627776) (hn : l.length ≤ 1099511627776) : Ev (fun k => QC.api_Point_51.f k l) l.flatten := concat_l0 l [] l rfl hs hn
/-- Merge. -/
theorem merge_calls (w : World) (A : Option Addr) (c : Nat) (l : List (List Pt)) (hC : Kd.C (Kd.slice 42 k42) w A l.length l) (hc : l.length ≤ c) (hs : (l.map List.length).sum ≤ 1099511627776) (hn : l.length ≤ 1099511627776) :
  Calls Try.prog 36 #[.slice A l.length c] w fun e w' => ∃ v : Value, e = .returned v ∧ Kd.R k42 42 w' w.heap.size (fun _ => True) v (Vw.view l.flatten) ∧ Below w.heap.size w w' := by
 have hfl : l.flatten.length = (l.map List.length).sum := by rw [List.length_flatten]
 obtain ⟨k, hk⟩ := (concat_ev l hs hn).rounds; have H1 := Lib.hid (fun w hC => QC.api_Point_51.calls k A c l l.flatten w hC hc hs hk); have HC := Lib.hid hC; obtain ⟨r1, r2, hev, hr⟩ := compact_ev (srtA l.flatten) (by rw [(srtA_perm _).length_eq]; omega); obtain ⟨k2, hk2⟩ := hev.rounds; have HK2 := Lib.hid hk2; have HR := Lib.hid hr; have HL := Lib.hid (show l.flatten.length < 4611686018427387904 by omega); clear hk hk2 hev hr hs hn hc hfl hC; go_enter Try.func36, Try.ntmps36
 go_wp2_with fail
 with_reducible refine (H1.out _ HC.out).mono ?_
 rintro e w1 ⟨v1, rfl, hR1, hb1⟩; have hR1' := Lib.hid hR1; have hb1' := Lib.hid hb1; clear hR1 hb1; go_wp2_with fail
 with_reducible refine (sort_any w.heap.size (fun _ => True) v1 l.flatten _ hR1'.out HL.out).mono ?_
 rintro e w2 ⟨rfl, hR2, hg2⟩; have hR2' := Lib.hid hR2; have hb2 := Lib.hid (hb1'.out.grown hg2 hb1'.out.size (fun j hj => Kd.R_base hR1'.out j hj)); clear hR2 hg2; go_wp2_with fail
 with_reducible refine (QX.api_Point.calls k2 (fun _ => True) v1 (srtA l.flatten) r1 r2 w _ hb2.out hR2'.out HK2.out).mono ?_
 rintro e w3 ⟨v3, rfl, hR3, hb3⟩; have hR3' := Lib.hid hR3; have hb3' := Lib.hid hb3; clear hR3 hb3; go_wp2; go_ret; refine ⟨_, rfl, ?_, hb3'.out⟩; have := hR3'.out; rw [HR.out] at this; exact Kd.R_mono this (fun _ _ => trivial)
end Mg
end Go.Proofs.Ytgagcimfkmegnaa
end
section
namespace Go.Proofs.Ytgagcimfkmegnaa
set_option linter.unusedVariables false
set_option linter.unusedSimpArgs false
open Go.RowKit Go.Proofs.YtgagcimfkmegnaaW.PrintWords Go.Proofs.YtgagcimfkmegnaaW.PrintLast Go.Proofs.YtgagcimfkmegnaaW.PrintMore Go.Proofs.Ytgagcimfkmegnaa.QT
namespace Mg
/-- A row of one row. -/
theorem one_row {X : World} {base : Nat} {ok : Nat → Prop} {v : Value} {xs : List Pt} (hR : Kd.R k42 42 X base ok v xs) {q : Nat} (hX : X.heap[q]? = some (.cells #[v] 44 (0, 0))) : Kd.C (Kd.slice 42 k42) X (some ⟨q, 0, none⟩) [xs].length [xs] := by
 obtain ⟨A, c, rfl⟩ := Kd.R_slice hR; obtain ⟨_, hc, hC⟩ := Kd.R_reads' hR; refine ⟨rfl, by simp, fun _ => ⟨_, rfl, fun j p hj => ?_⟩⟩
 match j, hj with
 | 0, hj =>
  simp at hj
  subst hj; refine ⟨_, rfl, ⟨A, c, rfl, hc, hC⟩, fun i u hu => ?_⟩
  match i, hu with
  | 0, hu =>
   simp at hu
   subst hu; exact (blk_cell hX 0).trans rfl
/-- Merge of one row. -/
theorem merge_one {X : World} {base : Nat} {ok : Nat → Prop} {v : Value} {xs : List Pt} (hR : Kd.R k42 42 X base ok v xs) {q : Nat} (hX : X.heap[q]? = some (.cells #[v] 44 (0, 0))) (hl : xs.length ≤ 1099511627776) :
  Calls Try.prog 36 #[.slice (some ⟨q, 0, none⟩) 1 1] X fun e w' => ∃ v' : Value, e = .returned v' ∧ Kd.R k42 42 w' X.heap.size (fun _ => True) v' (Vw.view xs) ∧ Below X.heap.size X w' := by
 have h := merge_calls X (some ⟨q, 0, none⟩) 1 [xs] (one_row hR hX) (by simp) (by simpa using hl) (by simp); simpa using h
end Mg
end Go.Proofs.Ytgagcimfkmegnaa
end
section
set_option maxHeartbeats 4000000
set_option maxRecDepth 100000
namespace Go.Proofs.Ytgagcimfkmegnaa
set_option linter.unusedVariables false
set_option linter.unusedSimpArgs false
open Go.RowKit Go.Proofs.YtgagcimfkmegnaaW.PrintWords Go.Proofs.YtgagcimfkmegnaaW.PrintLast Go.Proofs.YtgagcimfkmegnaaW.PrintMore Go.Proofs.Ytgagcimfkmegnaa.QT
namespace Ps
open Hm (Hp HM HMap cur put Sh Ft leN keys_calls)
abbrev Sr := S65
/-- What Series tells of a name. -/
def one (rg : S30) (hm : Hp) (n : ByteArray) : List Sr := if 0 < (Hm.cut (Vw.view (cur hm n).2) rg.f0 rg.f1).length then [⟨n, Hm.cut (Vw.view (cur hm n).2) rg.f0 rg.f1⟩] else []
def serOf (rg : S30) (hm : Hp) (ns : List ByteArray) : List Sr := ns.flatMap (one rg hm)
theorem serOf_take {rg : S30} {hm : Hp} {ns : List ByteArray} {i : Nat} (h : i < ns.length) : serOf rg hm (ns.take (i + 1)) = serOf rg hm (ns.take i) ++ one rg hm ns[i] := by
 unfold serOf; rw [List.take_succ_eq_append_getElem h, List.flatMap_append]; simp
theorem serOf_len (rg : S30) (hm : Hp) : ∀ ns : List ByteArray, (serOf rg hm ns).length ≤ ns.length
 | [] => by simp [serOf]
 | n :: r => by
  have ih := serOf_len rg hm r; unfold serOf at ih ⊢; rw [List.flatMap_cons, List.length_append, List.length_cons]; have : (one rg hm n).length ≤ 1 := by unfold one; split <;> simp
  omega
theorem rdN {ns : List ByteArray} {i : Nat} (h : i < ns.length) : rdOf ByteArray.empty ns (i : Int) = ns[i] := by
 unfold rdOf; rw [Int.toNat_natCast, List.getD_eq_getElem?_getD, List.getElem?_eq_getElem h]; rfl
theorem info65' : (Try.prog.info? 65).map (fun i => (i.zero, i.size, i.bytes)) = some (some (.agg #[.string ⟨#[]⟩, .slice none 0 0]), 2, 40) := by kernel_rfl
theorem size_of_mem {w : World} {gp : Nat} {hm : Hp} (h : HMap w gp hm) {n : ByteArray} (hn : n ∈ hm.map (·.1)) : n.size ≤ maxLen := by
 obtain ⟨e, he, rfl⟩ := List.mem_map.1 hn; obtain ⟨kl, hk⟩ := XM.MapIs.isK h e he; have hk : keyOf Try.prog 9 (.string e.1) = some kl := hk; obtain ⟨x, h1, _, h3⟩ := Maps.keyOf_str Try.underlying9 hk; have h4 : Value.string e.1 = .string ⟨x.toArray⟩ := h1; have h5 : e.1 = ⟨x.toArray⟩ := by injection h4
 rw [h5]; exact h3
theorem keysW (w : World) (gp : Nat) : Calls Try.prog 34 #[.map (some gp)] w fun e w' => e = .returned (.func (.func 50) #[] #[.pointer (some ⟨w.heap.size, 0, none⟩)]) ∧ w' = w.alloc (.cells #[.map (some gp)] 74) := callsIn_wide.1 (Try.maps_Keys (some gp) w)
theorem own_ne {α : Type} {d : Kd α} {e B : Nat} {w : World} {v u : Value} {xs : List α} (h : d.R e w B (fun k => some k ≠ u.ownBlock) v xs) {k0 : Nat} (hu : u.ownBlock = some k0) : v.ownBlock ≠ u.ownBlock := fun e2 => h.1 k0 (e2.trans hu) hu.symm
theorem wrap_n (i n : Nat) (h : i < n) (hn : n ≤ 1000000) : wrap64 ((i : Int) + 1) = ((i + 1 : Nat) : Int) := by unfold wrap64; omega
def PSer5.T5 : Bool × List (List Nat × List Nat) := (true, [([], []), ([0], [0]), ([1], [1]), ([2], [2]), ([], []), ([3, 4], [3, 4]), ([5], [5]), ([6], [6]), ([], []), ([8], [8]), ([9], [9]), ([10], [10]), ([11], [11]), ([7, 12, 7], [7, 12]), ([13, 13, 0, 1, 2, 3, 4, 5, 6, 7, 8, 9, 10, 11, 12, 13], [13])])
def PSer5.B5 : List Nat := [0, 1, 3, 7, 0, 31, 63, 127, 0, 256, 768, 1792, 3840, 8191, 16383]
theorem PSer5.tab5 : rtab .any (opsOf Try.f20 5) = PSer5.T5 := by kernel_rfl
theorem PSer5.bits5 : waitsOk PSer5.T5.2 PSer5.B5 = true := by kernel_rfl
theorem series_calls (w : World) (B g gm : Nat) (vM : Value) (x : Fx) (c : Me) (a : Fa) (hm : Hp) (T : Nat) (hI : FIs w B g gm vM x c a) (hM : HM w gm B T hm) (hT : T ≤ 1000000) :
  Calls Try.prog 20 #[.pointer (some ⟨g, 0, none⟩)] w fun e w' => ∃ (v : Value) (ns : List ByteArray), e = .returned v ∧ ns.Perm (hm.map (·.1)) ∧ ns.Pairwise leN ∧ Kd.R k65 65 w' w.heap.size (fun _ => True) v (serOf x.rg hm ns) ∧ Below w.heap.size w w' := by
 obtain ⟨fc, hfc⟩ : ∃ fc, fc = fcells x a.seq c vM a.er gm (hv g a) a.kd := ⟨_, rfl⟩
 have hfb : w.heap[g]? = some (.cells fc 77 (0, 0)) := by rw [hfc]; exact hI.blk
 have HFB := Lib.hid hfb; have HFC := Lib.hid hfc; have HMM := Lib.hid hM; have HT := Lib.hid hT; have HKY := Lib.hid (fun W (hW : Below w.heap.size w W) => keys_calls W gm hm (hM.below hW).map (Nat.le_trans hM.cnt hT)); have c23 : w.cell? ⟨g, 23, none⟩ = some (.map (some gm)) := (blk_cell hfb 23).trans (by rw [hfc]; rfl); clear hI hM hT hfb hfc; go_enter Try.func20, Try.ntmps20
 go_wp2_with fail
 with_reducible refine (keysW w gm).mono ?_
 rintro e w1 ⟨rfl, rfl⟩; go_wp2_with fail
 with_reducible refine (HKY.out w (Below.refl _ _)).mono ?_
 rintro e w2 ⟨v2, ns, rfl, hperm, hpw, hR2, hb2⟩; obtain ⟨A2, c2, rfl⟩ := Kd.R_slice hR2; have HPM := Lib.hid hperm; have HPW := Lib.hid hpw; have HR2 := Lib.hid hR2; have HB2 := Lib.hid hb2; have HNM := Lib.hid (show ns.length ≤ 1000000 by have := hperm.length_eq; rw [List.length_map] at this; have h1 := HMM.out.cnt; have h2 := HT.out; omega); clear hperm hpw hR2 hb2 HKY c23; go_wp2_with fail
 go_loopg [3, 5, 14] ns.length (fun gn v3 v5 v14 wr => ∃ (i : Nat), v14 = .int .i64 (i : Int) ∧ Aside0 (gn = ns.length - i) ∧ Aside0 (i ≤ ns.length) ∧ Aside0 (Kd.R k65 65 wr w.heap.size (fun k => some k ≠ (Value.slice A2 ns.length c2).ownBlock) v3 (serOf x.rg hm (ns.take i))) ∧ Aside0 (Kd.R Kd.string 9 wr w.heap.size (fun _ => True) (.slice A2 ns.length c2) ns) ∧ Aside0 (Below w.heap.size w wr))
 case atStart => exact ⟨0, rfl, ⟨rfl⟩, ⟨Nat.zero_le _⟩, ⟨by rw [List.take_zero]; exact Kd.R_nil _ _ _ _ _⟩, ⟨HR2.out⟩, ⟨HB2.out⟩⟩
 case round =>
  clear HR2 HB2; obtain ⟨i, rfl, HN, HI2, HR, HNR, HB⟩ := hrel
  by_cases hi : i < ns.length
  ·
   have hi0 : (i : Int) < (ns.length : Int) := by omega
   have hwi : wrap64 ((i : Int) + 1) = ((i + 1 : Nat) : Int) := wrap_n i ns.length hi HNM.out; obtain ⟨ad, e1, r0⟩ := Kd.at_string (Kd.R_reads' HNR.out).2.2 (i : Int) (by omega) hi0; cases e1; rw [Int.toNat_natCast, rdN hi] at r0
   obtain ⟨n, hn⟩ : ∃ n, ns[i] = n := ⟨_, rfl⟩
   have hst := serOf_take (rg := x.rg) (hm := hm) hi; rw [hn] at r0 hst; have hnm : n ∈ hm.map (·.1) := HPM.out.mem_iff.1 (by rw [← hn]; exact List.getElem_mem hi); have hns := size_of_mem HMM.out.map hnm; have hcR := (HMM.out.below HB.out).cur_R n; have hcl := HMM.out.cur_len n; obtain ⟨A0, c0, hv0⟩ := Kd.R_slice hcR; have hlk : ∀ W, Below w.heap.size w W → (Instr.lookup 74 (.map (some gm)) (.string n) false).run Try.prog W = .ok (cur hm n).1 W := fun W hW => HMap.look (HMM.out.below hW).map n hns; rw [hv0] at hlk hcR
   obtain ⟨xs, hxs⟩ : ∃ xs, (cur hm n).2 = xs := ⟨_, rfl⟩
   have hone : one x.rg hm n = if 0 < (Hm.cut (Vw.view xs) x.rg.f0 x.rg.f1).length then [⟨n, Hm.cut (Vw.view xs) x.rg.f0 x.rg.f1⟩] else [] := by unfold one; rw [hxs]
   rw [hxs] at hlk hcR hcl; rw [hone] at hst; have HLK := Lib.hid hlk; have HCR := Lib.hid hcR; have HXL := Lib.hid (show xs.length ≤ 1000000 from Nat.le_trans hcl HT.out); have HST := Lib.hid hst; have HIN := Lib.hid (show ∀ k, k = ns.length - i → ns.length - (i + 1) < k by intro k hk; omega)
   have HLO := Lib.hid (show ((serOf x.rg hm (ns.take i)).length + 1) * 40 ≤ 140737488355328 by
    have h1 := serOf_len x.rg hm (ns.take i); rw [List.length_take] at h1; have := HNM.out
    omega)
   obtain ⟨P, hP⟩ : ∃ P, serOf x.rg hm (ns.take i) = P := ⟨_, rfl⟩
   have hRR := HR.out; rw [hP] at HST HLO hRR; obtain ⟨A6, c6, rfl⟩ := Kd.R_slice hRR; have HRR := Lib.hid hRR; have q23 : wr.cell? ⟨g, 23, none⟩ = some (.map (some gm)) := (blk_cell (blk_below HFB.out HB.out) 23).trans (by rw [HFC.out]; rfl); have q7 : wr.cell? ⟨g, 7, none⟩ = some (.int .i64 x.rg.f0) := (blk_cell (blk_below HFB.out HB.out) 7).trans (by rw [HFC.out]; rfl); have q8 : wr.cell? ⟨g, 8, none⟩ = some (.int .i64 x.rg.f1) := (blk_cell (blk_below HFB.out HB.out) 8).trans (by rw [HFC.out]; rfl); have ql := hlk _ (below_drew HB.out); clear hn hnm hns hcR hcl hv0 hxs hone hst hlk hP hRR HR; go_wp2_with fail
   refine start_ (n := 15) (S := fun w' => w'.cell? ⟨g, 23, none⟩ = some (.map (some gm)) ∧ w'.cell? ⟨g, 7, none⟩ = some (.int .i64 x.rg.f0) ∧ w'.cell? ⟨g, 8, none⟩ = some (.int .i64 x.rg.f1) ∧ (Instr.lookup 74 (.map (some gm)) (.string n) false).run Try.prog w' = .ok (.slice A0 xs.length c0) w') (ds := []) (bs 15 0) (by kernel_rfl) rfl rfl ⟨q23, q7, q8, ql⟩ (fun hHeld => ?_); refine with_tabW PSer5.tab5 PSer5.bits5 (fun HT_ HW_ => ?_); apply pv 0 18 (bs 15 1) HT_; rfl; rfl; kernel_rfl; exact qq; rfl; intro w'; go_simp; with_reducible rfl; simp only [zz]; rfl
   apply pv 1 19 (bs 15 3) HT_; rfl; rfl; kernel_rfl; exact qq; rfl; intro w'; go_simp; with_reducible rfl; simp only [zz]; rfl
   apply pv 2 20 (bs 15 7) HT_; rfl; rfl; kernel_rfl; exact qq; rfl; intro w'; go_simp; with_reducible rfl; simp only [zz]; rfl
   apply pv 4 22 (bs 15 23) HT_; rfl; rfl; kernel_rfl; exact qq; rfl; intro w'; go_simp; with_reducible rfl; simp only [zz]; rfl
   apply pv 8 26 (bs 15 279) HT_; rfl; rfl; kernel_rfl; exact qq; rfl; intro w'; go_simp; with_reducible rfl; simp only [zz]; rfl
   apply pv 9 27 (bs 15 791) HT_; rfl; rfl; kernel_rfl; exact qq; rfl; intro w'; go_simp; with_reducible rfl; simp only [zz]; rfl
   apply pv 10 28 (bs 15 1815) HT_; rfl; rfl; kernel_rfl; exact qq; rfl; intro w'; go_simp; with_reducible rfl; simp only [zz]; rfl
   apply pv 11 29 (bs 15 3863) HT_; rfl; rfl; kernel_rfl; exact qq; rfl; intro w'; go_simp; with_reducible rfl; simp only [zz]; rfl
   apply tb 3 21 (bs 15 3871) HT_ HW_ hHeld; rfl; rfl; kernel_rfl; exact qq; rfl; rintro w' ⟨s0, s1, s2, s3⟩; go_simp; with_reducible rfl; simp only [zz]; rfl
   apply tb 5 23 (bs 15 3903) HT_ HW_ hHeld; rfl; rfl; kernel_rfl; exact qq; rfl; rintro w' ⟨s0, s1, s2, s3⟩; go_simp; with_reducible rfl; simp only [zz]; rfl
   apply tb 12 30 (bs 15 7999) HT_ HW_ hHeld; rfl; rfl; kernel_rfl; exact qq; rfl; rintro w' ⟨s0, s1, s2, s3⟩; go_simp; with_reducible rfl; simp only [zz]; rfl
   refine one_ (i := 6) (N := some 24) (bs 15 8063) rfl rfl (one_of HT_.out (by kernel_rfl)) (by decide) (fun K hK => ?_); refine value_ (w1 := ?_) (v := ?_) (by rfl) rfl ?_ ?_; rotate_left 2
   ·
    go_simp
    constructor
    ·
     rfl
    ·
     rfl
   have hBX := below_drew (below_alloc (Below.refl wr.heap.size wr) (.cells #[.slice A0 xs.length c0] 44))
   obtain ⟨gl, hgl⟩ : ∃ gl, gl = wr.heap.size := ⟨_, rfl⟩
   have hbl : ((wr.alloc (.cells #[.slice A0 xs.length c0] 44)).drew).heap[gl]? = some (.cells #[.slice A0 xs.length c0] 44 (0, 0)) := by rw [hgl]; exact blk_new wr _
   obtain ⟨X1, hX1⟩ : ∃ X1 : World, X1 = (wr.alloc (.cells #[.slice A0 xs.length c0] 44)).drew := ⟨_, rfl⟩
   rw [← hX1] at hbl hBX; rw [← hX1, ← hgl]; have HX1 := Lib.hid (And.intro hbl hBX); have hl1 := HLK.out _ (below_then HB.out HB.out.size hBX); clear hbl hBX hX1 hgl; refine hK.out _ _ ⟨((blk_cell (blk_below HFB.out (below_then HB.out HB.out.size HX1.out.2)) 23).trans (by rw [HFC.out]; rfl)), ((blk_cell (blk_below HFB.out (below_then HB.out HB.out.size HX1.out.2)) 7).trans (by rw [HFC.out]; rfl)), ((blk_cell (blk_below HFB.out (below_then HB.out HB.out.size HX1.out.2)) 8).trans (by rw [HFC.out]; rfl)), hl1⟩ (fun hHeld => ?_); clear hK K; refine norm_ (a' := ?_) ?_ ?_; rotate_left
   ·
    show Act.put _ (some 24) _ = _; simp only [Act.put, List.setIfInBounds_toArray, List.set_cons_zero, List.set_cons_succ, i64_w, i32_w]; rfl
   refine one_ (i := 7) (N := some 25) (bs 15 8191) rfl rfl (one_of HT_.out (by kernel_rfl)) (by decide) (fun K hK => ?_); refine goes_ Try.func36 (by kernel_rfl) rfl #[.slice (some ⟨gl, 0, none⟩) 1 1] (by rfl) rfl rfl (by simp only [List.map_toArray, List.map_cons, List.map_nil]; rfl) ?_; with_reducible refine ((Mg.merge_one (Kd.R_below HCR.out HX1.out.2) HX1.out.1 (by have := HXL.out; omega))).mono ?_
   rintro e w5 ⟨v5, rfl, hR5, hb5⟩; refine ⟨_, rfl, ?_⟩; have HB5 := Lib.hid (show Below wr.heap.size wr w5 from below_then HX1.out.2 HX1.out.2.size hb5); have HR5 := Lib.hid hR5; have hl5 := HLK.out _ (below_then HB.out HB.out.size HB5.out); obtain ⟨A5, c5, rfl⟩ := Kd.R_slice hR5; clear hR5 hb5; refine hK.out _ _ ⟨((blk_cell (blk_below HFB.out (below_then HB.out HB.out.size HB5.out)) 23).trans (by rw [HFC.out]; rfl)), ((blk_cell (blk_below HFB.out (below_then HB.out HB.out.size HB5.out)) 7).trans (by rw [HFC.out]; rfl)), ((blk_cell (blk_below HFB.out (below_then HB.out HB.out.size HB5.out)) 8).trans (by rw [HFC.out]; rfl)), hl5⟩ (fun hHeld => ?_); clear hK K; refine norm_ (a' := ?_) ?_ ?_; rotate_left
   ·
    show Act.put _ (some 25) _ = _; simp only [Act.put, List.setIfInBounds_toArray, List.set_cons_zero, List.set_cons_succ, i64_w, i32_w]; rfl
   refine one_ (i := 13) (N := some 31) (bs 15 16383) rfl rfl (one_of HT_.out (by kernel_rfl)) (by decide) (fun K hK => ?_); refine goes_ Try.func35 (by kernel_rfl) rfl #[.slice A5 (Vw.view xs).length c5, .agg #[.int .i64 x.rg.f0, .int .i64 x.rg.f1]] (by rfl) rfl rfl (by simp only [List.map_toArray, List.map_cons, List.map_nil]; rfl) ?_; with_reducible refine ((Hm.cut_calls _ A5 c5 (Vw.view xs) x.rg.f0 x.rg.f1 (Kd.R_reads' HR5.out).2.2 (Bt.R_cap HR5.out) (Nat.le_trans (Vw.view_len xs) HXL.out))).mono ?_
   rintro e w6 ⟨v6, rfl, hR6, hb6⟩; refine ⟨_, rfl, ?_⟩; have HB6 := Lib.hid (show Below wr.heap.size wr w6 from below_then HB5.out HB5.out.size hb6); have HR6 := Lib.hid (Kd.R_lower hR6 HB5.out.size); have hl6 := HLK.out _ (below_then HB.out HB.out.size HB6.out); clear hR6 hb6; refine hK.out _ _ ⟨((blk_cell (blk_below HFB.out (below_then HB.out HB.out.size HB6.out)) 23).trans (by rw [HFC.out]; rfl)), ((blk_cell (blk_below HFB.out (below_then HB.out HB.out.size HB6.out)) 7).trans (by rw [HFC.out]; rfl)), ((blk_cell (blk_below HFB.out (below_then HB.out HB.out.size HB6.out)) 8).trans (by rw [HFC.out]; rfl)), hl6⟩ (fun hHeld => ?_); clear hK K; refine norm_ (a' := ?_) ?_ ?_; rotate_left
   ·
    show Act.put _ (some 31) _ = _; simp only [Act.put, List.setIfInBounds_toArray, List.set_cons_zero, List.set_cons_succ, i64_w, i32_w]; rfl
   apply pv 14 6 (bs 15 32767) HT_; rfl; rfl; kernel_rfl; exact qq; rfl; intro w'; go_simp; with_reducible rfl; simp only [zz]; rfl
   refine done_ (done_of HT_.out (by kernel_rfl)) ?_
   obtain ⟨Q, hQ⟩ : ∃ Q, Hm.cut (Vw.view xs) x.rg.f0 x.rg.f1 = Q := ⟨_, rfl⟩
   rw [hQ] at HST HR6; obtain ⟨A7, c7, rfl⟩ := Kd.R_slice HR6.out; have HBW := Lib.hid (below_then HB.out HB.out.size HB6.out); have HNR5 := Lib.hid (Kd.R_below HNR.out HB6.out); have HRR5 := Lib.hid (Kd.R_below HRR.out HB6.out); clear hQ q23 q7 q8 ql hl1 hl5 hl6 HR5 r0
   by_cases hq : 0 < Q.length
   ·
    have dq : decide ((Q.length : Int) > 0) = true := decide_eq_true (by omega)
    have HOK := Lib.hid (show ∀ k, (Value.slice A7 Q.length c7).ownBlock = some k → (some k ≠ (Value.slice (some ad) ns.length c2).ownBlock) ∧ some k ≠ (Value.slice A6 P.length c6).ownBlock from fun k hk => by
     have h1 := Kd.R_base HR6.out k hk
     exact ⟨fun e => by have := Kd.R_lt HNR.out k e.symm; omega, fun e => by have := Kd.R_lt HRR.out k e.symm; omega⟩)
    have HFR := Lib.hid (show ∀ k, w6.heap.size ≤ k → some k ≠ (Value.slice (some ad) ns.length c2).ownBlock from fun k hk e => by have := Kd.R_lt HNR5.out k e.symm; omega); have HP5 := Lib.hid (k65_mkM w6 w.heap.size (fun k => (Value.slice A7 Q.length c7).ownBlock = some k) ⟨n, Q⟩ (Hm.R97 (Kd.R_lower HR6.out HB.out.size) (ok' := fun k => (Value.slice A7 Q.length c7).ownBlock = some k) (fun k hk => hk))); rw [if_pos hq] at HST
    go_wp2_with (at_builtin; go_loud (refine (Kd.R_append k65 (w0 := w) w.heap.size rfl (.tmp 35) (.tmp 39) 58 65 (.agg #[.string ⟨#[]⟩, .slice none 0 0]) 40 rfl Try.underlying58 info65' rfl (by decide) (by omega) (.slice A6 P.length c6) P ⟨n, Q⟩ [.string n, .slice A7 Q.length c7] (fun k => some k ≠ (Value.slice (some ad) ns.length c2).ownBlock) (fun k => (Value.slice A7 Q.length c7).ownBlock = some k) rfl ?aX ?aP ?aK ?aF ?aO ?aB ?aS ?aL ?_)); go_loud (case aX => rfl); go_loud (case aP => exact HP5.out); go_loud (case aK => exact HOK.out); go_loud (case aF => exact HFR.out); go_loud (case aO => exact HRR5.out); go_loud (case aB => exact HBW.out); go_loud (case aS => exact HBW.out.size); go_loud (case aL => exact HLO.out); intro v6 w7 hR7 hB7 hg7 hat7; have HR7 := Lib.hid hR7; have HB7 := Lib.hid hB7; go_loud (have HNR7 := Lib.hid (Kd.R_grown1 HNR5.out rfl hg7 (own_ne HRR5.out rfl))); clear hR7 hB7 hg7 hat7)
    go_roundg (ns.length - (i + 1))
    case measure => go_light; exact HIN.out _ HN.out
    case rel => exact ⟨i + 1, by rfl, ⟨rfl⟩, ⟨hi⟩, ⟨by rw [HST.out]; exact HR7.out⟩, ⟨HNR7.out⟩, ⟨HB7.out⟩⟩
   ·
    rw [if_neg hq, List.append_nil] at HST; have hq0 : Q = [] := List.eq_nil_of_length_eq_zero (by omega); subst hq0; clear hq; go_wp2; go_roundg (ns.length - (i + 1))
    case measure => go_light; exact HIN.out _ HN.out
    case rel => exact ⟨i + 1, by (simp [hwi]; done), ⟨rfl⟩, ⟨hi⟩, ⟨by rw [HST.out]; exact HRR5.out⟩, ⟨HNR5.out⟩, ⟨HBW.out⟩⟩
  ·
   have hge : ¬ (i : Int) < (ns.length : Int) := by omega
   have hie : i = ns.length := by have := HI2.out; omega
   have hR9 := HR.out; rw [hie, List.take_length] at hR9; have HR9 := Lib.hid (Kd.R_mono hR9 (fun _ _ => trivial)); clear hie hR9 HR; go_wp2; go_ret; exact ⟨_, rfl, ns, HPM.out, HPW.out, HR9.out, HB.out⟩
end Ps
end Go.Proofs.Ytgagcimfkmegnaa
end
