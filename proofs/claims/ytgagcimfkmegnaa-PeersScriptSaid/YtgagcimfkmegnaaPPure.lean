/- The fetch: what is behind a cursor: peers.order, the document's behind; what a page brings. -/
import Derived.Lib.SmallJoins
import Derived.Test.YtgagcimfkmegnaaQT3
import Derived.Test.YtgagcimfkmegnaaQT6
import Derived.Test.YtgagcimfkmegnaaQT8
section
set_option maxHeartbeats 8000000
set_option maxRecDepth 100000
namespace Go.Proofs.Ytgagcimfkmegnaa.QC
open Go.Proofs.Ytgagcimfkmegnaa.QT
open Go.RowKit Go.Proofs.YtgagcimfkmegnaaW.PrintWords Go.Proofs.YtgagcimfkmegnaaW.PrintLast Go.Proofs.YtgagcimfkmegnaaW.PrintMore
attribute [local go_sem] max2_int min2_int max_two min_two max_three min_three max_four min_four   -- for this text's walks alone
set_option linter.unusedVariables false
set_option linter.unusedSimpArgs false
mutual
def api_Point_51.l0 : Nat → List (List (S42)) → Int → List (List (S42)) → Int → Int → Option ((List (S42)))
 | 0, _, _, _, _, _ => none
 | k + 1, x0, x3, x9, x10, x11 => if x11 < x10 then (if 0 ≤ x11 then (if x11 < (x9.length : Int) then (if (wrap64 (x3 + ((rd_L6 x9 x11).length : Int))) < 0 then (none) else (api_Point_51.l0 k x0 (wrap64 (x3 + ((rd_L6 x9 x11).length : Int))) x9 x10 (wrap64 (x11 + 1)))) else (none)) else (none)) else (api_Point_51.l1 k (([] : List (S42))) x0 (x0.length : Int) 0)
def api_Point_51.l1 : Nat → List (S42) → List (List (S42)) → Int → Int → Option ((List (S42)))
 | 0, _, _, _, _ => none
 | k + 1, x6, x25, x26, x27 => if x27 < x26 then (if 0 ≤ x27 then (if x27 < (x25.length : Int) then (if x6.length + (rd_L6 x25 x27).length < 5864062014805 then (api_Point_51.l1 k (x6 ++ (rd_L6 x25 x27)) x25 x26 (wrap64 (x27 + 1))) else (none)) else (none)) else (none)) else (some x6)
end
def api_Point_51.f (k : Nat) (l0 : List (List (S42))) : Option ((List (S42))) := api_Point_51.l0 k l0 0 l0 (l0.length : Int) 0
theorem sum_take_le (l : List (List (S42))) : ∀ n : Nat, ((l.take n).map List.length).sum ≤ (l.map List.length).sum := by
 intro n; have e : l = l.take n ++ l.drop n := (List.take_append_drop n l).symm; have e2 := congrArg (fun z => (List.map List.length z).sum) e; simp only [List.map_append, List.sum_append] at e2; omega
theorem sum_take_succ (l : List (List (S42))) (i : Int) (h0 : 0 ≤ i) (h1 : i < (l.length : Int)) : ((l.take (i + 1).toNat).map List.length).sum = ((l.take i.toNat).map List.length).sum + (rd_L6 l i).length := by
 have h2 : i.toNat < l.length := by omega
 rw [show (i + 1).toNat = i.toNat + 1 from by omega, List.take_add_one, List.getElem?_eq_getElem h2]; simp only [Option.toList_some, List.map_append, List.map_cons, List.map_nil, List.sum_append, List.sum_cons, List.sum_nil]; unfold rd_L6; rw [List.getD_eq_getElem?_getD, List.getElem?_eq_getElem h2]; simp
theorem api_Point_51.calls (k : Nat) (A0 : Option Addr) (c0 : Nat) (l0 : List (List (S42))) (r : List (S42)) (w : World) (hr0 : Kd.C (Kd.slice 42 k42) w A0 l0.length l0) (hc0 : l0.length ≤ c0) (hS : (l0.map List.length).sum ≤ 1099511627776) (h : api_Point_51.f k l0 = some r) :
  Calls Try.prog 51 #[.slice A0 l0.length c0] w fun e w' => ∃ v0_ : Value, e = .returned (v0_) ∧ Kd.R k42 42 w' w.heap.size (fun _ => True) v0_ r ∧ Below w.heap.size w w' := by
 have HR0 := Aside0.mk hr0; clear hr0 hc0; have HS := Aside0.mk hS; clear hS; have HB := Aside0.mk (Below.refl w.heap.size w); have H : (api_Point_51.l0 k l0 0 l0 (l0.length : Int) 0) = some r := h; clear h; have H' := Aside0.mk H; clear H; go_enter Try.func51, Try.ntmps51
 go_wp2; go_loopg [3, 11] k (fun kq v3 v11 w' => ∃ (x3_1 : Int) (x11_1 : Int), v3 = .int .i64 x3_1 ∧ v11 = .int .i64 x11_1 ∧ Aside0 (api_Point_51.l0 kq l0 x3_1 l0 (l0.length : Int) x11_1 = some r) ∧ Aside0 (kq ≤ k) ∧ Aside0 (Below w.heap.size w w') ∧ Aside0 (0 ≤ x11_1 ∧ x11_1 ≤ (l0.length : Int) ∧ x3_1 = ((((l0.take x11_1.toNat).map List.length).sum : Nat) : Int)))
 case atStart => exact ⟨(0), (0), (by rfl), (by rfl), H', ⟨Nat.le_refl _⟩, ⟨HB.out⟩, ⟨⟨by omega, by omega, by simp⟩⟩⟩
 case round =>
  clear H'; obtain ⟨x3_1, x11_1, rfl, rfl, HA, HK1, HB, HZ⟩ := hrel
  cases gk with
  | zero => exact absurd HA.out (by simp [api_Point_51.l0])
  | succ k1 =>
   have H := HA.out; clear HA; simp only [api_Point_51.l0] at H
   by_cases c2 : x11_1 < (l0.length : Int)
   ·
    rw [if_pos c2] at H; have c2b0 : decide (x11_1 < (l0.length : Int)) = true := decide_eq_true c2; clear c2
    by_cases c3 : 0 ≤ x11_1
    ·
     rw [if_pos c3] at H; have c3b0 : decide (0 ≤ x11_1) = true := decide_eq_true c3; clear c3
     by_cases c4 : x11_1 < (l0.length : Int)
     ·
      rw [if_pos c4] at H; have c4b0 : decide (x11_1 < (l0.length : Int)) = true := decide_eq_true c4; clear c4
      by_cases c5 : (wrap64 (x3_1 + ((rd_L6 l0 x11_1).length : Int))) < 0
      ·
       rw [if_pos c5] at H; exact absurd H (by simp)
      ·
       rw [if_neg c5] at H; have c5b0 : decide ((wrap64 (x3_1 + ((rd_L6 l0 x11_1).length : Int))) < 0) = false := decide_eq_false c5; clear c5; have H' := Aside0.mk H; clear H; have p101 : 0 ≤ (x11_1 : Int) := of_decide_eq_true (by with_reducible assumption); have q101 : x11_1 < (l0.length : Int) := of_decide_eq_true (by with_reducible assumption); obtain ⟨ad101, A101_0, c101_0, e101, hx101_0, hl101_0, hi101_0⟩ := at_L6 HR0.out x11_1 p101 q101; cases e101; replace hx101_0 := (HB.out.cell (World.block_lt_of_cell? w _ hx101_0)).trans hx101_0; clear hi101_0 hl101_0; replace p101 := eq_true p101; replace q101 := eq_true q101; go_wp2; go_roundg k1
       case measure => have := HK1.out; omega
       case rel => exact ⟨(wrap64 (x3_1 + ((rd_L6 l0 x11_1).length : Int))), (wrap64 (x11_1 + 1)), (by rfl), (by rfl), H', ⟨by have := HK1.out; omega⟩, ⟨HB.out⟩, ⟨by have h1_ := HZ.out; have h2_ := HS.out; have h3_ : x11_1 < (l0.length : Int) := of_decide_eq_true (by with_reducible assumption); have h4_ := sum_take_succ l0 x11_1 h1_.1 h3_; have h5_ := sum_take_le l0 (x11_1 + 1).toNat; have h6_ := Kd.C_max HR0.out; rw [show wrap64 (x11_1 + 1) = x11_1 + 1 from by unfold wrap64; omega, show wrap64 (x3_1 + ((rd_L6 l0 x11_1).length : Int)) = x3_1 + ((rd_L6 l0 x11_1).length : Int) from by unfold wrap64; omega]; exact ⟨by omega, by omega, by omega⟩⟩⟩
     ·
      rw [if_neg c4] at H; exact absurd H (by simp)
    ·
     rw [if_neg c3] at H; exact absurd H (by simp)
   ·
    rw [if_neg c2] at H; have c2b0 : decide (x11_1 < (l0.length : Int)) = false := decide_eq_false c2; clear c2
    obtain ⟨y102, hy102⟩ : ∃ y_ : List (S42), y_ = (([] : List (S42))) := ⟨_, rfl⟩
    replace H : (api_Point_51.l1 k1 y102 l0 (l0.length : Int) 0) = some r := by (rw [hy102]; with_reducible exact H)
    have Ny102 := Aside0.mk hy102; clear hy102; have H' := Aside0.mk H; clear H; have hz_ : 0 ≤ x3_1 ∧ x3_1 ≤ 1099511627776 := by have h1_ := HZ.out; have h2_ := HS.out; have h5_ := sum_take_le l0 x11_1.toNat; omega
    have HG := Aside0.mk (fun w => grow_nil x3_1 hz_.1 hz_.2 w); clear hz_; go_wp2_with fail
    with_reducible refine (HG.out _).mono ?_
    rintro e w6 ⟨v6_, rfl, hR6, hB6⟩; have HO104 := Aside0.mk (show Kd.R k42 42 w6 w.heap.size (fun _ => True) v6_ y102 from by rw [Ny102.out]; exact Kd.R_lower hR6 HB.out.size); have HB' := Aside0.mk (below_then HB.out HB.out.size hB6); clear HB hR6 hB6; have HB := HB'; clear HB'; go_wp2; try go_frame
    go_loopg [6, 27] k1 (fun kq v6 v27 w' => ∃ (x6_2 : List (S42)) (x27_2 : Int), v27 = .int .i64 x27_2 ∧ Aside0 (api_Point_51.l1 kq x6_2 l0 (l0.length : Int) x27_2 = some r) ∧ Aside0 (kq ≤ k1) ∧ Aside0 (Kd.R k42 42 w' w.heap.size (fun _ => True) v6 x6_2) ∧ Aside0 (Below w.heap.size w w'))
    case atStart => exact ⟨(y102), (0), (by rfl), H', ⟨Nat.le_refl _⟩, ⟨HO104.out⟩, ⟨HB.out⟩⟩
    case round =>
     clear H'; try clear c2b0
     obtain ⟨x6_2, x27_2, rfl, HA, HK2, HO_6, HB⟩ := hrel
     cases gk with
     | zero => exact absurd HA.out (by simp [api_Point_51.l1])
     | succ k2 =>
      have H := HA.out; clear HA; simp only [api_Point_51.l1] at H
      by_cases c8 : x27_2 < (l0.length : Int)
      ·
       rw [if_pos c8] at H; have c8b0 : decide (x27_2 < (l0.length : Int)) = true := decide_eq_true c8; clear c8
       by_cases c9 : 0 ≤ x27_2
       ·
        rw [if_pos c9] at H; have c9b0 : decide (0 ≤ x27_2) = true := decide_eq_true c9; clear c9
        by_cases c10 : x27_2 < (l0.length : Int)
        ·
         rw [if_pos c10] at H; have c10b0 : decide (x27_2 < (l0.length : Int)) = true := decide_eq_true c10; clear c10
         by_cases c11 : x6_2.length + (rd_L6 l0 x27_2).length < 5864062014805
         ·
          rw [if_pos c11] at H; have LMc11 := Aside0.mk c11; clear c11
          obtain ⟨y106, hy106⟩ : ∃ y_ : List (S42), y_ = (x6_2 ++ (rd_L6 l0 x27_2)) := ⟨_, rfl⟩
          replace H : (api_Point_51.l1 k2 y106 l0 (l0.length : Int) (wrap64 (x27_2 + 1))) = some r := by (rw [hy106]; with_reducible exact H)
          have Ny106 := Aside0.mk hy106; clear hy106; have H' := Aside0.mk H; clear H; have p105 : 0 ≤ (x27_2 : Int) := of_decide_eq_true (by with_reducible assumption); have q105 : x27_2 < (l0.length : Int) := of_decide_eq_true (by with_reducible assumption); obtain ⟨ad105, A105_0, c105_0, e105, hx105_0, hl105_0, hi105_0⟩ := at_L6 HR0.out x27_2 p105 q105; cases e105; replace hx105_0 := (HB.out.cell (World.block_lt_of_cell? w _ hx105_0)).trans hx105_0; have HR105_0 := Aside0.mk hi105_0; clear hi105_0 hl105_0; replace p105 := eq_true p105; replace q105 := eq_true q105
          go_wp2_with (((with_reducible refine gate_builtin (b := .append) (xs := #[.tmp 31, .tmp 32]) rfl ?_); at_builtin; refine Kd.R_append_rows k42 (w0 := w) w.heap.size rfl (.tmp 31) (.tmp 32) 44 42 (.agg #[(.int .i64 0), (.int .u64 0), (.int .u64 0)]) 24 rfl Try.underlying44 info42 rfl (by decide) (by omega) u6 x6_2 (rd_L6 l0 x27_2) _ _ _ (fun _ => True) (fun _ => False) rfl rfl ?aO ?aR (fun _ _ h => h) (fun _ h => h.elim) ?aF ?aB ?aS ?aL ?_; (case aR => repeat (exact (Kd.C_below HR105_0.out HB.out))); (case aB => exact HB.out); (case aF => exact (fun _ _ => trivial)); (case aO => exact HO_6.out); (case aS => exact (below_size HB.out)); (case aL => have := LMc11.out; omega); intro v107 w12 ho hb hg hat; rw [← Ny106.out] at ho; have n0_ := Aside0.mk (hb); have n1_ := Aside0.mk (ho); clear HB; clear HO_6; have HB := n0_; have HO108 := n1_; clear n0_ n1_; clear ho hb hg hat))
          go_roundg k2
          case measure => have := HK1.out; have := HK2.out; omega
          case rel => exact ⟨(y106), (wrap64 (x27_2 + 1)), (by rfl), H', ⟨by have := HK1.out; have := HK2.out; omega⟩, ⟨HO108.out⟩, ⟨HB.out⟩⟩
         ·
          rw [if_neg c11] at H; exact absurd H (by simp)
        ·
         rw [if_neg c10] at H; exact absurd H (by simp)
       ·
        rw [if_neg c9] at H; exact absurd H (by simp)
      ·
       rw [if_neg c8] at H; have c8b0 : decide (x27_2 < (l0.length : Int)) = false := decide_eq_false c8; clear c8; obtain rfl := Option.some.inj H; go_wp2; go_ret; exact ⟨_, by rfl, by exact HO_6.out, by repeat ((with_reducible exact HB.out))⟩
end Go.Proofs.Ytgagcimfkmegnaa.QC
end
section
set_option maxHeartbeats 4000000
set_option maxRecDepth 100000
namespace Go.Proofs.Ytgagcimfkmegnaa
open Go.RowKit Go.Proofs.YtgagcimfkmegnaaW.PrintWords
theorem insertion_nil (f : Value) (w : World) : Calls Try.prog 84 #[.slice none 0 0, .int .i64 0, .int .i64 0, f] w fun e w' => e = .returned (.tuple #[]) ∧ Below w.heap.size w w' := by
 have H0 := Lib.hid (Below.refl w.heap.size w); go_enter Try.func84, Try.ntmps84
 go_wp2; go_loopg [8] 1 (fun gg s8 wr => s8 = .int .i64 1 ∧ Hid (Below w.heap.size w wr))
 case atStart => exact ⟨rfl, H0⟩
 case round =>
  obtain ⟨rfl, H⟩ := hrel; go_wp2; go_end0; exact ⟨rfl, H.out⟩
theorem pdq_nil (f : Value) (lim : Int) (w : World) : Calls Try.prog 69 #[.slice none 0 0, .int .i64 0, .int .i64 0, .int .i64 lim, f] w fun e w' => e = .returned (.tuple #[]) ∧ Below w.heap.size w w' := by
 have H0 := Lib.hid (Below.refl w.heap.size w); have HI := Lib.hid (fun w => insertion_nil f w); go_enter Try.func69, Try.ntmps69
 go_wp2; go_loopg [1, 2] 1 (fun gg s1 s2 wr => s1 = .int .i64 0 ∧ s2 = .int .i64 0 ∧ Hid (Below w.heap.size w wr))
 case atStart => exact ⟨rfl, rfl, H0⟩
 case round =>
  obtain ⟨rfl, rfl, H⟩ := hrel; go_wp2_with fail
  with_reducible refine (HI.out _).mono ?_
  rintro e w1 ⟨rfl, hb1⟩; have HB := Lib.hid (below_then H.out H.out.size hb1); clear hb1; go_wp2; refine bodyPost_ret (results_none rfl _ _ _) rfl ?_; exact ⟨rfl, HB.out⟩
theorem sort_nil (f : Value) (w : World) : Calls Try.prog 52 #[.slice none 0 0, f] w fun e w' => e = .returned (.tuple #[]) ∧ Below w.heap.size w w' := by
 have hl : Calls Try.prog 67 #[.int .u64 0] w fun e w' => e = .returned (.int .i64 (Lib.bitLen 0 : Nat)) ∧ w' = w := by
  have h := Any.bits_Len (SlLaysF0.n15.bits (P := Try.prog) (ρ := Try.sortPoint_ren) { Try.sortPoint with }) (0 : Int) w (by omega) (by omega); exact h
 have HL := Lib.hid hl; have HP := Lib.hid (fun lim w => pdq_nil f lim w); clear hl; go_enter Try.func52, Try.ntmps52
 go_wp2_with fail
 with_reducible refine HL.out.mono ?_
 rintro e w1 ⟨rfl, rfl⟩; go_wp2_with fail
 with_reducible refine (HP.out _ _).mono ?_
 rintro e w2 ⟨rfl, hb⟩; have HB := Lib.hid hb; clear hb; go_wp2; go_end0; exact ⟨rfl, HB.out⟩
open Go.Proofs.YtgagcimfkmegnaaW.PrintLast Go.Proofs.YtgagcimfkmegnaaW.PrintMore Go.Proofs.Ytgagcimfkmegnaa.QT in
/-- SortFunc at a row, nil or not. -/
theorem sort_any (base : Nat) (P0 : Nat → Prop) (v : Value) (l : List S42) (w : World) (hR : Kd.R k42 42 w base P0 v l) (hb : l.length < 4611686018427387904) :
  Calls Try.prog 52 #[v, .func (.func 53) #[] #[]] w fun e w' => e = .returned (.tuple #[]) ∧ Kd.R k42 42 w' base P0 v (srtA l) ∧ w.grownBy w' v.ownBlock := by
 obtain ⟨inner, ho⟩ := Kd.R_own hR
 rcases ho with ⟨_, ⟨rfl, h0⟩ | ⟨gb, cap, cur, rfl, _⟩⟩
 ·
  have hl := List.eq_nil_of_length_eq_zero h0; subst hl
  exact (sort_nil _ w).mono fun e w' ⟨he, hb⟩ => ⟨he, Kd.R_nil _ _ _ _ _, grown_of_below hb _⟩
 ·
  exact (sort_row base gb l.length cap P0 l w hR hb).mono fun e w' ⟨he, hR', hg⟩ => ⟨he, hR', hg⟩
end Go.Proofs.Ytgagcimfkmegnaa
end
section
set_option maxHeartbeats 1000000
namespace Go.Proofs.Ytgagcimfkmegnaa
set_option linter.unusedVariables false
set_option linter.unusedSimpArgs false
open Go.RowKit Go.Proofs.YtgagcimfkmegnaaW.PrintWords Go.Proofs.YtgagcimfkmegnaaW.PrintLast Go.Proofs.YtgagcimfkmegnaaW.PrintMore Go.Proofs.Ytgagcimfkmegnaa.QT
namespace Mg
abbrev Pt := S42
theorem rd_at (P S : List (List Pt)) (x : List Pt) (i : Int) (hi : i = P.length) : rd_L6 (P ++ x :: S) i = x := by
 subst hi; unfold rd_L6; simp
theorem concat_l1 : ∀ (R P : List (List Pt)) (acc : List Pt) (l : List (List Pt)), l = P ++ R → acc = P.flatten → (l.map List.length).sum ≤ 1099511627776 → l.length ≤ 1099511627776 →
  Ev (fun k => QC.api_Point_51.l1 k acc l l.length (P.length : Int)) l.flatten
 | [], P, acc, l, hl, ha, hs, hn => by
  simp only [List.append_nil] at hl; subst hl; subst ha; refine Ev.step (f := fun _ => some l.flatten) (fun k => ?_) (Ev.now _)
  rw [QC.api_Point_51.l1, if_neg (by omega)]
 | x :: R, P, acc, l, hl, ha, hs, hn => by
  have e := rd_at P R x (P.length : Int) rfl; have hln : l.length = P.length + R.length + 1 := by rw [hl]; simp; omega
  have hsum : P.flatten.length + x.length ≤ (l.map List.length).sum := by
   rw [hl]; simp only [List.length_flatten, List.map_append, List.map_cons, List.sum_append, List.sum_cons]; omega
  have ih := concat_l1 R (P ++ [x]) (acc ++ x) l (by rw [hl]; simp) (by rw [ha]; simp) hs hn; rw [List.length_append, List.length_singleton] at ih; refine Ev.step (fun k => ?_) ih; rw [QC.api_Point_51.l1, if_pos (by omega), if_pos (by omega), if_pos (by omega), hl, e, if_pos (by rw [ha]; omega)]; rw [show wrap64 ((P.length : Int) + 1) = ((P.length + 1 : Nat) : Int) from by unfold wrap64; omega]
theorem concat_l0 : ∀ (R P : List (List Pt)) (l : List (List Pt)), l = P ++ R → (l.map List.length).sum ≤ 1099511627776 → l.length ≤ 1099511627776 →
  Ev (fun k => QC.api_Point_51.l0 k l (((P.map List.length).sum : Nat) : Int) l l.length (P.length : Int)) l.flatten
 | [], P, l, hl, hs, hn => by
  simp only [List.append_nil] at hl; have h1 := concat_l1 l [] [] l rfl rfl hs hn; refine Ev.step (fun k => ?_) h1; subst hl; rw [QC.api_Point_51.l0, if_neg (by omega)]
  rfl
 | x :: R, P, l, hl, hs, hn => by
  have e := rd_at P R x (P.length : Int) rfl; have hln : l.length = P.length + R.length + 1 := by rw [hl]; simp; omega
  have hsum : (P.map List.length).sum + x.length ≤ (l.map List.length).sum := by
   rw [hl]; simp only [List.map_append, List.map_cons, List.sum_append, List.sum_cons]; omega
  have ih := concat_l0 R (P ++ [x]) l (by rw [hl]; simp) hs hn; rw [List.length_append, List.length_singleton, List.map_append, List.map_singleton, List.sum_append, List.sum_singleton] at ih; refine Ev.step (fun k => ?_) ih; rw [QC.api_Point_51.l0, if_pos (by omega), if_pos (by omega), if_pos (by omega), hl, e]; rw [show wrap64 ((((P.map List.length).sum : Nat) : Int) + (x.length : Int)) = (((P.map List.length).sum + x.length : Nat) : Int) from by unfold wrap64; omega, if_neg (by omega)]; rw [show wrap64 ((P.length : Int) + 1) = ((P.length + 1 : Nat) : Int) from by unfold wrap64; omega]
theorem concat_ev (l : List (List Pt)) (hs : (l.map List.length).sum ≤ 1099511627776) (hn : l.length ≤ 1099511627776) : Ev (fun k => QC.api_Point_51.f k l) l.flatten := concat_l0 l [] l rfl hs hn
/-- Merge. -/
theorem merge_calls (w : World) (A : Option Addr) (c : Nat) (l : List (List Pt)) (hC : Kd.C (Kd.slice 42 k42) w A l.length l) (hc : l.length ≤ c) (hs : (l.map List.length).sum ≤ 1099511627776) (hn : l.length ≤ 1099511627776) :
  Calls Try.prog 36 #[.slice A l.length c] w fun e w' => ∃ v : Value, e = .returned v ∧ Kd.R k42 42 w' w.heap.size (fun _ => True) v (Vw.view l.flatten) ∧ Below w.heap.size w w' := by
 have hfl : l.flatten.length = (l.map List.length).sum := by rw [List.length_flatten]
 obtain ⟨k, hk⟩ := (concat_ev l hs hn).rounds; have H1 := Lib.hid (fun w hC => QC.api_Point_51.calls k A c l l.flatten w hC hc hs hk); have HC := Lib.hid hC; obtain ⟨r1, r2, hev, hr⟩ := compact_ev (srtA l.flatten) (by rw [(srtA_perm _).length_eq]; omega); obtain ⟨k2, hk2⟩ := hev.rounds; have HK2 := Lib.hid hk2; have HR := Lib.hid hr; have HL := Lib.hid (show l.flatten.length < 4611686018427387904 by omega); clear hk hk2 hev hr hs hn hc hfl hC; go_enter Try.func36, Try.ntmps36
 go_wp2_with fail
 with_reducible refine (H1.out _ HC.out).mono ?_
 rintro e w1 ⟨v1, rfl, hR1, hb1⟩; have hR1' := Lib.hid hR1; have hb1' := Lib.hid hb1; clear hR1 hb1; go_wp2_with fail
 with_reducible refine (sort_any w.heap.size (fun _ => True) v1 l.flatten _ hR1'.out HL.out).mono ?_
 rintro e w2 ⟨rfl, hR2, hg2⟩; have hR2' := Lib.hid hR2; have hb2 := Lib.hid (hb1'.out.grown hg2 hb1'.out.size (fun j hj => Kd.R_base hR1'.out j hj)); clear hR2 hg2; go_wp2_with fail
 with_reducible refine (QX.api_Point.calls k2 (fun _ => True) v1 (srtA l.flatten) r1 r2 w _ hb2.out hR2'.out HK2.out).mono ?_
 rintro e w3 ⟨v3, rfl, hR3, hb3⟩; have hR3' := Lib.hid hR3; have hb3' := Lib.hid hb3; clear hR3 hb3; go_wp2; go_ret; refine ⟨_, rfl, ?_, hb3'.out⟩; have := hR3'.out; rw [HR.out] at this; exact Kd.R_mono this (fun _ _ => trivial)
end Mg
end Go.Proofs.Ytgagcimfkmegnaa
end
section
namespace Go.Proofs.Ytgagcimfkmegnaa
set_option linter.unusedVariables false
set_option linter.unusedSimpArgs false
open Go.RowKit Go.Proofs.YtgagcimfkmegnaaW.PrintWords Go.Proofs.YtgagcimfkmegnaaW.PrintLast Go.Proofs.YtgagcimfkmegnaaW.PrintMore Go.Proofs.Ytgagcimfkmegnaa.QT
namespace Mg
/-- A row of one row. -/
theorem one_row {X : World} {base : Nat} {ok : Nat → Prop} {v : Value} {xs : List Pt} (hR : Kd.R k42 42 X base ok v xs) {q : Nat} (hX : X.heap[q]? = some (.cells #[v] 44 (0, 0))) : Kd.C (Kd.slice 42 k42) X (some ⟨q, 0, none⟩) [xs].length [xs] := by
 obtain ⟨A, c, rfl⟩ := Kd.R_slice hR; obtain ⟨_, hc, hC⟩ := Kd.R_reads' hR; refine ⟨rfl, by simp, fun _ => ⟨_, rfl, fun j p hj => ?_⟩⟩
 match j, hj with
 | 0, hj =>
  simp at hj
  subst hj; refine ⟨_, rfl, ⟨A, c, rfl, hc, hC⟩, fun i u hu => ?_⟩
  match i, hu with
  | 0, hu =>
   simp at hu
   subst hu; exact (blk_cell hX 0).trans rfl
/-- Merge of one row. -/
theorem merge_one {X : World} {base : Nat} {ok : Nat → Prop} {v : Value} {xs : List Pt} (hR : Kd.R k42 42 X base ok v xs) {q : Nat} (hX : X.heap[q]? = some (.cells #[v] 44 (0, 0))) (hl : xs.length ≤ 1099511627776) :
  Calls Try.prog 36 #[.slice (some ⟨q, 0, none⟩) 1 1] X fun e w' => ∃ v' : Value, e = .returned v' ∧ Kd.R k42 42 w' X.heap.size (fun _ => True) v' (Vw.view xs) ∧ Below X.heap.size X w' := by
 have h := merge_calls X (some ⟨q, 0, none⟩) 1 [xs] (one_row hR hX) (by simp) (by simpa using hl) (by simp); simpa using h
end Mg
end Go.Proofs.Ytgagcimfkmegnaa
end
section
namespace Go.Proofs.Ytgagcimfkmegnaa
set_option linter.unusedVariables false
set_option linter.unusedSimpArgs false
open Go.ChangeShapes Go.WideShapes Go.ChangeAt Go.RowKit Go.Joins Go.Deep Go.Proofs.YtgagcimfkmegnaaW.PrintWords
namespace OpenRows
section
variable {H : Type} {enc : TypeId × Value → H} {P : Program} {w : World} {base : Nat} {spare : Nat → Bool} {held : Bool}
/-- What the cells of one element say. -/
def Elem {α : Type} (enc : TypeId × Value → H) (P : Program) (w : World) (base : Nat) (spare : Nat → Bool) (held : Bool) (e : TypeId) (d : Kd α) (Pr : α → Prop) : Prop :=
 ∀ n cs x, cs.length = d.sz → DataW.trod enc P w base spare held n e cs = some x → ∃ y, d.K w y cs ∧ Pr y
theorem open_rows {α : Type} [Inhabited α] {d : Kd α} {t e : TypeId} {Pr : α → Prop} (ht : P.underlying t = some (.slice e)) (hC : P.cellsOf e = d.sz) (hd : Elem enc P w base spare held e d Pr) {fuel : Nat} {cs : List Value} {x : DataW H × List MemPlace} (h : DataW.trod enc P w base spare held fuel t cs = some x) :
  ∃ (A : Option Addr) (cap : Nat) (l : List α), cs = [.slice A l.length cap] ∧ l.length ≤ cap ∧ l.length ≤ maxLen ∧ d.C w A l.length l ∧ ∀ y ∈ l, Pr y := by
 rcases open_slice ht h with ⟨h0, _⟩ | ⟨a, len, cap, m, n, D, Pl, rfl, hb, hl, hm, hmm, rfl, hx⟩
 ·
  exact ⟨none, 0, [], h0, Nat.le_refl _, by simp, Kd.C_nil _ _, by simp⟩
 have hlm : len ≤ m := by rw [hmm]; split <;> omega
 have each : ∀ i, i < len → ∃ y : α, (∃ c, c.length = d.sz ∧ d.K w y c ∧ ∀ k u, c[k]? = some u → w.cell? (a.add (i * d.sz + k)) = some u) ∧ Pr y := by
  intro i hi; obtain ⟨cs', h1, h2⟩ := hx i (by omega); rw [hC] at h1; obtain ⟨_, hlen, hcell⟩ := World.cells?_some h1; obtain ⟨y, hK, hP⟩ := hd n cs' _ hlen h2; refine ⟨y, ⟨cs', hlen, hK, fun k u hu => ?_⟩, hP⟩; obtain ⟨hk, hget⟩ := List.getElem?_eq_some_iff.1 hu; have := hcell k (by omega); rw [Addr.add_add] at this; rw [this]; simpa using hu
 obtain ⟨Y, hY⟩ := choose_lt each; refine ⟨some a, cap, (List.range len).map Y, by simp, by simpa using hl, by simp only [List.length_map, List.length_range]; exact Nat.le_trans hl hm, ⟨by simp, by simp only [List.length_map, List.length_range]; unfold maxLen at hm; omega, fun hp => ⟨a, rfl, fun j p hj => ?_⟩⟩, fun p hp => ?_⟩
 ·
  have hjl : j < len := by have := (List.getElem?_eq_some_iff.1 hj).1; simpa using this
  have hp : p = Y j := by
   rw [List.getElem?_map, List.getElem?_range hjl] at hj; exact (Option.some.inj hj).symm
  subst hp; exact (hY j hjl).1
 ·
  obtain ⟨j, hj, rfl⟩ := List.mem_map.1 hp; exact (hY j (List.mem_range.1 hj)).2
theorem elem_bool {t : TypeId} (ht : P.underlying t = some .bool) : Elem enc P w base spare held t Kd.bool (fun _ => True) := by
 intro n cs x _ h; obtain ⟨y, rfl, _⟩ := DataW.trod_bool ht h; exact ⟨y, rfl, trivial⟩
end
end OpenRows
end Go.Proofs.Ytgagcimfkmegnaa
end
section
set_option maxHeartbeats 2000000
set_option maxRecDepth 100000
namespace Go.Proofs.Ytgagcimfkmegnaa
set_option linter.unusedVariables false
set_option linter.unusedSimpArgs false
open Go.RowKit Go.Proofs.YtgagcimfkmegnaaW.PrintWords Go.Proofs.YtgagcimfkmegnaaW.PrintLast Go.Proofs.YtgagcimfkmegnaaW.PrintMore Go.Proofs.Ytgagcimfkmegnaa.QT
namespace Ps
abbrev Me := S25
abbrev Pt := S42
/-- What never changes of a fetch. -/
structure Fx where
 ep : Int
 sp : Int
 sh : Int
 rg : S30
 sz : Int
/-- What a fetch has come to: its next number, its cursor, the metas that it was told, how many of their blocks it has, whether all pages came, its error. -/
structure Fa where
 seq : Int
 blk : Int
 id : ByteArray
 L : List Me
 n : Nat
 pg : Bool
 er : Int
def Fa.fin (a : Fa) : Bool := a.pg && (a.n == a.L.length)
def Fa.live (a : Fa) : Bool := a.er == 0 && !a.fin
def Fa.kd (a : Fa) : Int := if a.pg then 7 else 5
def hf (g : Nat) (f : FuncId) : Value := .func (.func f) #[.pointer (some ⟨g, 0, none⟩)] #[]
def hv (g : Nat) (a : Fa) : Value := if a.live = true then (if a.pg = true then hf g 44 else hf g 29) else Value.nilFunc
def fcells (x : Fx) (seq : Int) (c : Me) (vM : Value) (er : Int) (gm : Nat) (h : Value) (kd : Int) : Array Value :=
 #[.int .i64 0, .int .i64 seq, .int .i64 x.ep, .int .i64 x.sp, .int .i64 x.sh, .string ⟨#[]⟩, .int .i64 0, .int .i64 x.rg.f0, .int .i64 x.rg.f1, .int .i64 0, .int .u64 0, .int .u64 0, .int .i64 0, .bool false, .slice none 0 0, .slice none 0 0, .string c.f0, .int .i64 c.f1, .int .i64 c.f2, .int .u32 c.f3, .int .i64 x.sz, vM, .int .i64 er, .map (some gm), h, .int .i64 kd]
structure FIs (w : World) (B g gm : Nat) (vM : Value) (x : Fx) (c : Me) (a : Fa) : Prop where
 blk : w.heap[g]? = some (.cells (fcells x a.seq c vM a.er gm (hv g a) a.kd) 77 (0, 0))
 met : Kd.Q k25 25 w B (fun _ => True) vM (a.L.drop a.n)
 cb : c.f1 = a.blk
 ci : c.f0 = a.id
 bg : B ≤ g
 le : a.n ≤ a.L.length
 pn : a.pg = false → a.n = 0
 mr : a.pg = false → Kd.R k25 25 w B (fun _ => True) vM a.L
theorem FIs.below {w w' : World} {B g gm : Nat} {vM : Value} {x : Fx} {c : Me} {a : Fa} (h : FIs w B g gm vM x c a) (hb : Below w.heap.size w w') : FIs w' B g gm vM x c a :=
 ⟨blk_below h.blk hb, Kd.Q_below h.met hb, h.cb, h.ci, h.bg, h.le, h.pn, fun hp => Kd.R_below (h.mr hp) hb⟩
/-- A store of a value into a block of cells, in one step. -/
theorem store_blk {P : Program} {ops : Array Oper} {rest : List Oper} {o : Oper} {a : Act} {Q : Exit → Act → World → Prop} {W : World} (hgd : o.guard = none) {t : TypeId} {p v : Operand} (ho : o.op = .store t p v) (hN : o.dst = none) {g off : Nat} {e : TypeId} {cur cur' : Array Value} {u : Value}
  (hp : a.eval p = .pointer (some ⟨g, off, none⟩)) (hv : a.eval v = u) (hh : W.heap[g]? = some (.cells cur e (0, 0))) (ht : (P.info? t).map (·.size) = some u.cells.toList.length) (hfit : off + u.cells.toList.length ≤ cur.size) (h1 : u.cells.toList.all (·.oneCell') = true) (hc : cur.toList.take off ++ u.cells.toList ++ cur.toList.drop (off + u.cells.toList.length) = cur'.toList)
  (h : ∀ w1, w1.heap[g]? = some (.cells cur' e (0, 0)) → W.grownBy w1 (some g) → w1.heap.size = W.heap.size → wpList P ops Q rest a w1) : wpList P ops Q (o :: rest) a W := by
 have hrun := run_store_run (P := P) t u u.cells.toList hh rfl ht hfit (fun q hq => List.all_eq_true.1 h1 q hq); obtain ⟨c2, h2, h3, h4⟩ := setCells_row u.cells.toList off W cur hh hfit; obtain ⟨s1, s2, s3, s4⟩ := setCells_same g u.cells.toList off W; have h5 : c2 = cur' := Array.toList_inj.1 (by rw [h4, hc]); subst h5; have hq := h _ h2 ⟨s1, s2, s3, by rw [s4]; exact Nat.le_refl _, fun k hk hne => setCells_far _ _ k (fun e => hne (by rw [e]))⟩ s4; refine wpList_plain hgd fun K hK => ?_; unfold Oper.wp
 have hx : (execOp a.eval o).run P W = .ok .skip (W.setCells g off u.cells.toList) := by
  unfold execOp; simp only [ho, hp, hv]; simp [hrun]
 rw [hx]; show K (a.put o.dst undef) _; rw [hN]; exact hK _ _ hq
theorem set2 {W : World} {g i j : Nat} {e : TypeId} {cs : Array Value} (h : W.heap[g]? = some (.cells cs e (0, 0))) (u v : Value) : ∃ X, X = ((W.setCell ⟨g, i, none⟩ u).setCell ⟨g, j, none⟩ v).drew ∧ X.heap[g]? = some (.cells ((cs.setIfInBounds i u).setIfInBounds j v) e (0, 0)) ∧ W.grownBy X (some g) ∧ X.heap.size = W.heap.size :=
 ⟨_, rfl, blk_set (blk_set h i u) j v, ⟨rfl, rfl, rfl, by simp [World.drew, World.setCell], fun k hk hne => (Below.heap_setCell _ ⟨g, j, none⟩ v k (fun e => hne (by rw [show k = g from e]))).trans (Below.heap_setCell _ ⟨g, i, none⟩ u k (fun e => hne (by rw [show k = g from e])))⟩, by simp [World.drew, World.setCell]⟩
theorem below_grow {w0 W w1 : World} {g : Nat} (h : Below w0.heap.size w0 W) (hg : W.grownBy w1 (some g)) (hb : w0.heap.size ≤ g) : Below w0.heap.size w0 w1 := h.grown hg h.size (fun k hk => by cases hk; exact hb)
theorem blk_other {W w1 : World} {k g : Nat} {o : Obj} (hb : W.heap[k]? = some o) (hg : W.grownBy w1 (some g)) (hne : k ≠ g) : w1.heap[k]? = some o := (hg.block k (blk_lt hb) (fun e => hne (by cases e; rfl))).trans hb
theorem grown_set {W : World} {g : Nat} {cs : Array Value} {t : TypeId} (h : W.heap[g]? = some (.cells cs t (0, 0))) (i : Nat) (u : Value) : W.grownBy (W.setCell ⟨g, i, none⟩ u) (some g) :=
 ⟨rfl, rfl, rfl, by simp [World.setCell], fun k _ hne => Below.heap_setCell W ⟨g, i, none⟩ u k (fun e => hne (by rw [show k = g from e]))⟩
theorem grown_drew {W w1 : World} {r : Option Nat} (h : W.grownBy w1 r) : W.grownBy w1.drew r := ⟨h.os, h.tape, h.output, h.size, h.block⟩
theorem grown_trans {A B C : World} {r : Option Nat} (h1 : A.grownBy B r) (h2 : B.grownBy C r) : A.grownBy C r :=
 ⟨h2.os.trans h1.os, h2.tape.trans h1.tape, h2.output.trans h1.output, Nat.le_trans h1.size h2.size, fun k hk hne => (h2.block k (Nat.lt_of_lt_of_le hk h1.size) hne).trans (h1.block k hk hne)⟩
theorem fn_eq (w : World) (f : Fn) (a c : Array Value) : (binOp .eql 75 (.func f a c) .nilFunc).run Try.prog w = .ok (.bool false) w := by
 kernel_rfl
theorem nil_eq (w : World) : (binOp .eql 75 .nilFunc .nilFunc).run Try.prog w = .ok (.bool true) w := by
 kernel_rfl
theorem done_calls (w : World) (B g gm : Nat) (vM : Value) (x : Fx) (c : Me) (a : Fa) (h : FIs w B g gm vM x c a) :
  Calls Try.prog 16 #[.pointer (some ⟨g, 0, none⟩)] w fun e w' => e = .returned (.bool (a.er == 0 && a.fin)) ∧ w = w' := by
 have c24 : w.cell? ⟨g, 24, none⟩ = some (hv g a) := (blk_cell h.blk 24).trans rfl; have c22 : w.cell? ⟨g, 22, none⟩ = some (.int .i64 a.er) := (blk_cell h.blk 22).trans rfl; clear h; unfold hv Fa.live at c24; cases he : (a.er == 0) <;> cases hf_ : a.fin <;> cases hp : a.pg
 all_goals
  rw [he, hf_, hp] at c24; simp only [Bool.true_and, Bool.false_and, Bool.not_true, Bool.not_false, Bool.false_eq_true, if_true, if_false, hf] at c24; have q1 := fn_eq; have q2 := nil_eq; go_enter Try.func16, Try.ntmps16
  go_wp2; go_ret; exact ⟨rfl, rfl⟩
theorem err_calls (w : World) (B g gm : Nat) (vM : Value) (x : Fx) (c : Me) (a : Fa) (h : FIs w B g gm vM x c a) :
  Calls Try.prog 18 #[.pointer (some ⟨g, 0, none⟩)] w fun e w' => e = .returned (.int .i64 a.er) ∧ w = w' := by
 have c22 : w.cell? ⟨g, 22, none⟩ = some (.int .i64 a.er) := (blk_cell h.blk 22).trans rfl; clear h; go_enter Try.func18, Try.ntmps18
 go_wp2; go_ret; exact ⟨rfl, rfl⟩
end Ps
end Go.Proofs.Ytgagcimfkmegnaa
end
section
set_option maxRecDepth 100000
namespace Go.Proofs.Ytgagcimfkmegnaa
set_option linter.unusedVariables false
set_option linter.unusedSimpArgs false
open Go.RowKit Go.Proofs.YtgagcimfkmegnaaW.PrintWords Go.Proofs.YtgagcimfkmegnaaW.PrintLast Go.Proofs.YtgagcimfkmegnaaW.PrintMore Go.Proofs.Ytgagcimfkmegnaa.QT
namespace Ps
/-- Is a meta behind a cursor? -/
def behP (m : Me) (b : Int) (i : ByteArray) : Bool := decide (b < m.f1) || (m.f1 == b && Op.bytesLess i.toList m.f0.toList)
def aggM (m : Me) : Value := .agg #[.string m.f0, .int .i64 m.f1, .int .i64 m.f2, .int .u32 m.f3]
def ordM (a b : Me) : Int := if a.f1 < b.f1 then -1 else if a.f1 > b.f1 then 1 else cmpStr a.f0 b.f0
theorem or_two (t u : Int) : Ev (fun k => cmp_Or_int.f k [t, u]) (if t = 0 then u else t) := by
 unfold cmp_Or_int.f; have w1 : wrap64 (0 + 1) = 1 := by unfold wrap64; omega
 have w2 : wrap64 (1 + 1) = 2 := by unfold wrap64; omega
 have r0 : rd [t, u] 0 = t := rfl; have r1 : rd [t, u] 1 = u := rfl
 by_cases ht : t = 0
 ·
  rw [if_pos ht]; refine Ev.step (f := fun k => cmp_Or_int.l0 k 0 [t, u] ([t, u].length : Int) 1) (fun k => ?_) ?_
  ·
   rw [cmp_Or_int.l0, if_pos (by simp), if_pos (by omega), if_pos (by simp), r0, if_pos ht, w1]
  ·
   by_cases hu : u = 0
   ·
    refine Ev.step (f := fun k => cmp_Or_int.l0 k 0 [t, u] ([t, u].length : Int) 2) (fun k => ?_) ?_
    ·
     rw [cmp_Or_int.l0, if_pos (by simp), if_pos (by omega), if_pos (by simp), r1, if_pos hu, w2]
    ·
     refine Ev.step (f := fun _ => some u) (fun k => ?_) (Ev.now _); rw [cmp_Or_int.l0, if_neg (by simp), hu]
   ·
    refine Ev.step (f := fun _ => some u) (fun k => ?_) (Ev.now _); rw [cmp_Or_int.l0, if_pos (by simp), if_pos (by omega), if_pos (by simp), r1, if_neg hu]
 ·
  rw [if_neg ht]; refine Ev.step (f := fun _ => some t) (fun k => ?_) (Ev.now _); rw [cmp_Or_int.l0, if_pos (by simp), if_pos (by omega), if_pos (by simp), r0, if_neg ht]
theorem order_ev (a b : Me) : Ev (fun k => peers_order.f k a.f0 a.f1 a.f2 a.f3 b.f0 b.f1 b.f2 b.f3) (ordM a b) := by
 have e1 : cmp_Compare_int.f a.f1 b.f1 = some (if a.f1 < b.f1 then -1 else if a.f1 > b.f1 then 1 else 0) := by
  simp only [cmp_Compare_int.f, cmp_isNaN_int.f, bne_self_eq_false, Option.bind_some, Bool.false_eq_true, if_false]
  split
  ·
   rfl
  ·
   split <;> rfl
 have e2 : cmp_Compare_string.f a.f0 b.f0 = some (cmpStr a.f0 b.f0) := rfl; unfold peers_order.f; refine Ev.congr (fun k => by rw [e1, Option.bind_some, e2, Option.bind_some]) ?_; refine (or_two _ _).bind (f := fun _ t => some t) ?_
 have : (if (if a.f1 < b.f1 then (-1 : Int) else if a.f1 > b.f1 then 1 else 0) = 0 then cmpStr a.f0 b.f0 else (if a.f1 < b.f1 then -1 else if a.f1 > b.f1 then 1 else 0)) = ordM a b := by
  unfold ordM
  by_cases h1 : a.f1 < b.f1
  ·
   simp [h1]
  ·
   by_cases h2 : a.f1 > b.f1
   ·
    simp [h1, h2]
   ·
    simp [h1, h2]
 rw [this]; exact Ev.now _
theorem ord_le (a b : Me) : decide (ordM a b ≤ 0) = !behP a b.f1 b.f0 := by
 unfold ordM behP
 by_cases h1 : a.f1 < b.f1
 ·
  rw [if_pos h1, decide_eq_false (show ¬ b.f1 < a.f1 by omega), beq_eq_false_iff_ne.2 (show a.f1 ≠ b.f1 by omega)]; rfl
 ·
  rw [if_neg h1]
  by_cases h2 : a.f1 > b.f1
  ·
   rw [if_pos h2, decide_eq_true (show b.f1 < a.f1 by omega)]; rfl
  ·
   rw [if_neg h2, decide_eq_false (show ¬ b.f1 < a.f1 by omega), beq_iff_eq.2 (show a.f1 = b.f1 by omega)]; unfold cmpStr
   cases h3 : Op.bytesLess a.f0.toList b.f0.toList with
   | true => rw [bytesLess_asymm _ _ h3]; rfl
   | false => cases Op.bytesLess b.f0.toList a.f0.toList <;> rfl
theorem order_calls (w : World) (a b : Me) : Calls Try.prog 27 #[aggM a, aggM b] w fun e w' => ∃ r : Int, e = .returned (.int .i64 r) ∧ decide (r ≤ 0) = (!behP a b.f1 b.f0) ∧ Below w.heap.size w w' := by
 obtain ⟨k, hk⟩ := (order_ev a b).rounds
 exact (peers_order.calls k a.f0 a.f1 a.f2 a.f3 b.f0 b.f1 b.f2 b.f3 _ w hk).mono fun e w' h => ⟨_, h.1, ord_le a b, h.2⟩
theorem gt_less (a b : List UInt8) : (!Op.bytesLess a b && !(a == b)) = Op.bytesLess b a := by
 cases h : Op.bytesLess a b with
 | true => rw [bytesLess_asymm _ _ h]; rfl
 | false =>
  by_cases e : a = b
  ·
   subst e; rw [h]; simp
  ·
   rw [bytesLess_tri _ _ h e, beq_eq_false_iff_ne.2 e]; rfl
theorem behind_calls (w : World) (m : Me) (b : Int) (i : ByteArray) : Calls Try.prog 45 #[aggM m, .int .i64 b, .string i] w fun e w' => e = .returned (.bool (behP m b i)) ∧ Below w.heap.size w w' := by
 unfold behP aggM
 by_cases h1 : b < m.f1
 ·
  have d1 : decide (m.f1 > b) = true := decide_eq_true h1; rw [decide_eq_true h1, Bool.true_or]; clear h1; go_enter Try.func45, Try.ntmps45
  go_wp2_with (first
   | ((with_reducible refine gate_dst (N := 3) rfl ?_); refine box_event rfl (N := 3) rfl (cs := #[.string m.f0, .int .i64 m.f1, .int .i64 m.f2, .int .u32 m.f3]) (t := 25) ?hr ?_; (case hr => go_simp; done); intro gb hgb Y hboy hbY; have HY := Lib.hid hbY; have y0 : Y.cell? ⟨gb, 0, none⟩ = some (.string m.f0) := (blk_cell hboy 0).trans rfl; have y1 : Y.cell? ⟨gb, 1, none⟩ = some (.int .i64 m.f1) := (blk_cell hboy 1).trans rfl; clear hgb hboy hbY))
  go_ret; exact ⟨rfl, HY.out⟩
 ·
  have d1 : decide (m.f1 > b) = false := decide_eq_false h1; rw [decide_eq_false h1, Bool.false_or]; clear h1
  cases d2 : (m.f1 == b) with
  | false =>
   go_enter Try.func45, Try.ntmps45
   go_wp2_with (first
    | ((with_reducible refine gate_dst (N := 3) rfl ?_); refine box_event rfl (N := 3) rfl (cs := #[.string m.f0, .int .i64 m.f1, .int .i64 m.f2, .int .u32 m.f3]) (t := 25) ?hr ?_; (case hr => go_simp; done); intro gb hgb Y hboy hbY; have HY := Lib.hid hbY; have y0 : Y.cell? ⟨gb, 0, none⟩ = some (.string m.f0) := (blk_cell hboy 0).trans rfl; have y1 : Y.cell? ⟨gb, 1, none⟩ = some (.int .i64 m.f1) := (blk_cell hboy 1).trans rfl; clear hgb hboy hbY))
   go_ret
   exact ⟨rfl, HY.out⟩
  | true =>
   rw [Bool.true_and]
   obtain ⟨q, hq⟩ : ∃ q, Op.bytesLess i.toList m.f0.toList = q := ⟨_, rfl⟩
   rw [hq]; go_enter Try.func45, Try.ntmps45
   go_wp2_with (first
    | ((with_reducible refine gate_dst (N := 3) rfl ?_); refine box_event rfl (N := 3) rfl (cs := #[.string m.f0, .int .i64 m.f1, .int .i64 m.f2, .int .u32 m.f3]) (t := 25) ?hr ?_; (case hr => go_simp; done); intro gb hgb Y hboy hbY; have HY := Lib.hid hbY; have y0 : Y.cell? ⟨gb, 0, none⟩ = some (.string m.f0) := (blk_cell hboy 0).trans rfl; have y1 : Y.cell? ⟨gb, 1, none⟩ = some (.int .i64 m.f1) := (blk_cell hboy 1).trans rfl; clear hgb hboy hbY))
   rw [gt_less, hq]; go_ret; exact ⟨rfl, HY.out⟩
/-- A message's cells. -/
def mcs (m : S46) (A1 : Option Addr) (c1 : Nat) (A2 : Option Addr) (c2 : Nat) : Array Value := #[.int .i64 m.f0, .int .i64 m.f1, .int .i64 m.f2, .int .i64 m.f3, .int .i64 m.f4, .string m.f5, .int .i64 m.f6, .int .i64 m.f7.f0, .int .i64 m.f7.f1, .int .i64 m.f8.f0, .int .u64 m.f8.f1, .int .u64 m.f8.f2, .int .i64 m.f9, .bool m.f10, .slice A1 m.f11.length c1, .slice A2 m.f12.length c2]
/-- What a page's metas do to the cursor and the list: those behind the cursor are taken, till one is not. -/
def pageF : Int → ByteArray → List Me → List Me → (Int × ByteArray × List Me) × Bool
 | b, i, L, [] => ((b, i, L), true)
 | b, i, L, m :: r => if behP m b i = true then pageF m.f1 m.f0 (L ++ [m]) r else ((b, i, L), false)
end Ps
end Go.Proofs.Ytgagcimfkmegnaa
end
