/- The stable sort at Metas by peers.order: what the printed functions compute. -/
import Derived.Test.YtgagcimfkmegnaaQS2
import Derived.Test.YtgagcimfkmegnaaQS4
import Derived.Shelf.SlicesE.Clone
import Derived.Shelf.SlicesQ.IndexFunc
section
set_option maxHeartbeats 8000000
set_option maxRecDepth 100000
namespace Go.Proofs.Ytgagcimfkmegnaa.QS
open Go.Proofs.Ytgagcimfkmegnaa.QT
open Go.RowKit Go.Proofs.YtgagcimfkmegnaaW.PrintWords Go.Proofs.YtgagcimfkmegnaaW.PrintLast Go.Proofs.YtgagcimfkmegnaaW.PrintMore
attribute [local go_sem] max2_int min2_int max_two min_two max_three min_three max_four min_four   -- for this text's walks alone
set_option linter.unusedVariables false
set_option linter.unusedSimpArgs false
mutual
def api_Meta_43.l0 : Nat → List (S25) → Int → Int → Int → Int → Option ((List (S25)))
 | 0, _, _, _, _, _ => none
 | k + 1, x0, x1, x6, x7, x8 => if x8 ≤ x1 then ((api_Meta_59.f k x0 x7 x8).bind fun t147 => (api_Meta_43.l0 k t147 x1 x6 x8 (wrap64 (x8 + x6)))) else ((api_Meta_59.f k x0 x7 x1).bind fun t148 => (api_Meta_43.l1 k t148 x1 x6))
def api_Meta_43.l1 : Nat → List (S25) → Int → Int → Option ((List (S25)))
 | 0, _, _, _ => none
 | k + 1, x0, x1, x6 => if x6 < x1 then (api_Meta_43.l2 k x0 x1 x6 0 (wrap64 (2 * x6))) else (some x0)
def api_Meta_43.l2 : Nat → List (S25) → Int → Int → Int → Int → Option ((List (S25)))
 | 0, _, _, _, _, _ => none
 | k + 1, x0, x1, x6, x7, x8 => if x8 ≤ x1 then ((api_Meta_60.f k x0 x7 (wrap64 (x7 + x6)) x8).bind fun t149 => (api_Meta_43.l2 k t149 x1 x6 x8 (wrap64 (x8 + (wrap64 (2 * x6)))))) else (if (wrap64 (x7 + x6)) < x1 then ((api_Meta_60.f k x0 x7 (wrap64 (x7 + x6)) x1).bind fun t150 => (api_Meta_43.l1 k t150 x1 (wrap64 (x6 * 2)))) else (api_Meta_43.l1 k x0 x1 (wrap64 (x6 * 2))))
end
def api_Meta_43.f (k : Nat) (l0 : List (S25)) (a1 : Int)  : Option ((List (S25))) := api_Meta_43.l0 k l0 a1 20 0 20
theorem api_Meta_43.calls (k : Nat) (P0_ : Nat → Prop) (u9000_ : Value) (l0 : List (S25)) (a1 : Int)  (r : List (S25)) (w0 w : World) (hB : Below w0.heap.size w0 w) (ho0 : Kd.R k25 25 w w0.heap.size P0_ u9000_ l0) (h : api_Meta_43.f k l0 a1 = some r) :
  Calls Try.prog 43 #[u9000_, .int .i64 a1, .func (.func 27) #[] #[]] w fun e w' => e = .returned (.tuple #[]) ∧ Kd.R k25 25 w' w0.heap.size (fun k_ => (P0_ k_ ∨ w.heap.size ≤ k_)) u9000_ r ∧ Below w0.heap.size w0 w' ∧ Kept w w' (fun k_ => P0_ k_) := by
 have HO0 := Aside0.mk (show Kd.R k25 25 w w0.heap.size (fun k_ => (P0_ k_ ∨ w.heap.size ≤ k_)) u9000_ l0 from Kd.R_mono ho0 (fun k_ hk => (.inl hk))); have HK := Aside0.mk (Kept.refl w (fun k_ => P0_ k_)); have HB := Aside0.mk hB; clear hB; have H : (api_Meta_43.l0 k l0 a1 20 0 20) = some r := h; clear h; have H' := Aside0.mk H; clear H; go_enter Try.func43, Try.ntmps43
 go_wp2; go_loopg [7, 8] k (fun kq v7 v8 w' => ∃ (x0_1 : List (S25)) (x7_1 : Int) (x8_1 : Int), v7 = .int .i64 x7_1 ∧ v8 = .int .i64 x8_1 ∧ Aside0 (api_Meta_43.l0 kq x0_1 a1 20 x7_1 x8_1 = some r) ∧ Aside0 (kq ≤ k) ∧ Aside0 (Kd.R k25 25 w' w0.heap.size (fun k_ => (P0_ k_ ∨ w.heap.size ≤ k_)) u9000_ x0_1) ∧ Aside0 (Kept w w' (fun k_ => P0_ k_)) ∧ Aside0 (Below w0.heap.size w0 w'))
 case atStart => exact ⟨(l0), (0), (20), (by rfl), (by rfl), H', ⟨Nat.le_refl _⟩, ⟨HO0.out⟩, ⟨HK.out⟩, ⟨HB.out⟩⟩
 case round =>
  clear H'; obtain ⟨x0_1, x7_1, x8_1, rfl, rfl, HA, HK1, HO_0, HK, HB⟩ := hrel
  cases gk with
  | zero => exact absurd HA.out (by simp [api_Meta_43.l0])
  | succ k1 =>
   have H := HA.out; clear HA; simp only [api_Meta_43.l0] at H
   by_cases c4 : x8_1 ≤ a1
   ·
    rw [if_pos c4] at H; have c4b0 : decide (x8_1 ≤ a1) = true := decide_eq_true c4; clear c4; replace H := Option.bind_eq_some_iff.mp H; obtain ⟨t147, A50, H⟩ := H; replace H : (api_Meta_43.l0 k1 t147 a1 20 x8_1 (wrap64 (x8_1 + 20))) = some r := H; have A5 := Aside0.mk A50; clear A50; have H' := Aside0.mk H; clear H; obtain ⟨Ao6, co6, eo6⟩ := Kd.R_slice HO_0.out; subst eo6
    go_wp2_with (((with_reducible refine gate_callee (f := 59) rfl ?_); refine goesL_ (some 18) rfl rfl Try.func59 (by kernel_rfl) rfl #[.slice Ao6 x0_1.length co6, .int .i64 x7_1, .int .i64 x8_1, .func (.func 27) #[] #[]] rfl (by (try simp only [List.map_toArray, List.map_cons, List.map_nil]); rfl) ?_; (with_reducible refine (api_Meta_59.calls k1 (fun k_ => some k_ = (.slice Ao6 x0_1.length co6 : Value).ownBlock) (.slice Ao6 x0_1.length co6) x0_1 x7_1 x8_1  t147 w0 _ ?side1 ?side2 A5.out).mono ?_); (case side1 => repeat ((with_reducible exact HB.out))); (case side2 => exact Kd.R_tight rfl HO_0.out); rintro e w7 ⟨rfl, hy0, hb, hkp⟩; refine ⟨_, rfl, ?_⟩; have n0_ := Aside0.mk (Kd.R_reok rfl hy0 (fun k_ e_ => HO_0.out.1 k_ e_)); have n1_ := Aside0.mk (Kept.then_ (S := (fun k_ => P0_ k_)) HK.out hkp (fun k_ hs_ => (fun e_ => (HO_0.out.1 k_ e_.symm)) hs_)); have n2_ := Aside0.mk (hb); clear HO_0; clear HK; clear HB; have HO_0 := n0_; have HK := n1_; have HB := n2_; clear n0_ n1_ n2_; (try clear hb); (try clear hkp); (try clear hy0)))
    go_roundg k1
    case measure => have := HK1.out; omega
    case rel => exact ⟨(t147), (x8_1), (wrap64 (x8_1 + 20)), (by rfl), (by rfl), H', ⟨by have := HK1.out; omega⟩, ⟨HO_0.out⟩, ⟨HK.out⟩, ⟨HB.out⟩⟩
   ·
    rw [if_neg c4] at H; have c4b0 : decide (x8_1 ≤ a1) = false := decide_eq_false c4; clear c4; replace H := Option.bind_eq_some_iff.mp H; obtain ⟨t148, A80, H⟩ := H; replace H : (api_Meta_43.l1 k1 t148 a1 20) = some r := H; have A8 := Aside0.mk A80; clear A80; have H' := Aside0.mk H; clear H; obtain ⟨Ao9, co9, eo9⟩ := Kd.R_slice HO_0.out; subst eo9
    go_wp2_with (((with_reducible refine gate_callee (f := 59) rfl ?_); refine goesL_ (some 27) rfl rfl Try.func59 (by kernel_rfl) rfl #[.slice Ao9 x0_1.length co9, .int .i64 x7_1, .int .i64 a1, .func (.func 27) #[] #[]] rfl (by (try simp only [List.map_toArray, List.map_cons, List.map_nil]); rfl) ?_; (with_reducible refine (api_Meta_59.calls k1 (fun k_ => some k_ = (.slice Ao9 x0_1.length co9 : Value).ownBlock) (.slice Ao9 x0_1.length co9) x0_1 x7_1 a1  t148 w0 _ ?side1 ?side2 A8.out).mono ?_); (case side1 => repeat ((with_reducible exact HB.out))); (case side2 => exact Kd.R_tight rfl HO_0.out); rintro e w10 ⟨rfl, hy0, hb, hkp⟩; refine ⟨_, rfl, ?_⟩; have n0_ := Aside0.mk (Kd.R_reok rfl hy0 (fun k_ e_ => HO_0.out.1 k_ e_)); have n1_ := Aside0.mk (Kept.then_ (S := (fun k_ => P0_ k_)) HK.out hkp (fun k_ hs_ => (fun e_ => (HO_0.out.1 k_ e_.symm)) hs_)); have n2_ := Aside0.mk (hb); clear HO_0; clear HK; clear HB; have HO_0 := n0_; have HK := n1_; have HB := n2_; clear n0_ n1_ n2_; (try clear hb); (try clear hkp); (try clear hy0)))
    try go_frame
    go_loopg [6] k1 (fun kq v6 w' => ∃ (x0_2 : List (S25)) (x6_2 : Int), v6 = .int .i64 x6_2 ∧ Aside0 (api_Meta_43.l1 kq x0_2 a1 x6_2 = some r) ∧ Aside0 (kq ≤ k1) ∧ Aside0 (Kd.R k25 25 w' w0.heap.size (fun k_ => (P0_ k_ ∨ w.heap.size ≤ k_)) (.slice Ao9 x0_1.length co9) x0_2) ∧ Aside0 (Kept w w' (fun k_ => P0_ k_)) ∧ Aside0 (Below w0.heap.size w0 w'))
    case atStart => exact ⟨(t148), (20), (by rfl), H', ⟨Nat.le_refl _⟩, ⟨HO_0.out⟩, ⟨HK.out⟩, ⟨HB.out⟩⟩
    case round =>
     clear H'; try clear c4b0
     obtain ⟨x0_2, x6_2, rfl, HA, HK2, HO_0, HK, HB⟩ := hrel; have hl0_2 := (Kd.R_reads' HO_0.out).1; rw [hl0_2] at HO_0
     (try simp only [hl0_2])
     cases gk with
     | zero => exact absurd HA.out (by simp [api_Meta_43.l1])
     | succ k2 =>
      have H := HA.out; clear HA; simp only [api_Meta_43.l1] at H
      by_cases c11 : x6_2 < a1
      ·
       rw [if_pos c11] at H; have c11b0 : decide (x6_2 < a1) = true := decide_eq_true c11; clear c11; have H' := Aside0.mk H; clear H; go_wp2; go_loopg [7, 8] k2 (fun kq v7 v8 w' => ∃ (x0_3 : List (S25)) (x7_3 : Int) (x8_3 : Int), v7 = .int .i64 x7_3 ∧ v8 = .int .i64 x8_3 ∧ Aside0 (api_Meta_43.l2 kq x0_3 a1 x6_2 x7_3 x8_3 = some r) ∧ Aside0 (kq ≤ k2) ∧ Aside0 (Kd.R k25 25 w' w0.heap.size (fun k_ => (P0_ k_ ∨ w.heap.size ≤ k_)) (.slice Ao9 x0_2.length co9) x0_3) ∧ Aside0 (Kept w w' (fun k_ => P0_ k_)) ∧ Aside0 (Below w0.heap.size w0 w'))
       case atStart => exact ⟨(x0_2), (0), (wrap64 (2 * x6_2)), (by rfl), (by rfl), H', ⟨Nat.le_refl _⟩, ⟨HO_0.out⟩, ⟨HK.out⟩, ⟨HB.out⟩⟩
       case round =>
        clear H'; try clear c11b0
        obtain ⟨x0_3, x7_3, x8_3, rfl, rfl, HA, HK3, HO_0, HK, HB⟩ := hrel; have hl0_3 := (Kd.R_reads' HO_0.out).1; rw [hl0_3] at HO_0
        (try simp only [hl0_3])
        cases gk with
        | zero => exact absurd HA.out (by simp [api_Meta_43.l2])
        | succ k3 =>
         have H := HA.out; clear HA; simp only [api_Meta_43.l2] at H
         by_cases c12 : x8_3 ≤ a1
         ·
          rw [if_pos c12] at H; have c12b0 : decide (x8_3 ≤ a1) = true := decide_eq_true c12; clear c12; replace H := Option.bind_eq_some_iff.mp H; obtain ⟨t149, A130, H⟩ := H; replace H : (api_Meta_43.l2 k3 t149 a1 x6_2 x8_3 (wrap64 (x8_3 + (wrap64 (2 * x6_2))))) = some r := H; have A13 := Aside0.mk A130; clear A130; have H' := Aside0.mk H; clear H
          go_wp2_with (((with_reducible refine gate_callee (f := 60) rfl ?_); refine goesL_ (some 43) rfl rfl Try.func60 (by kernel_rfl) rfl #[.slice Ao9 x0_3.length co9, .int .i64 x7_3, .int .i64 (wrap64 (x7_3 + x6_2)), .int .i64 x8_3, .func (.func 27) #[] #[]] rfl (by (try simp only [List.map_toArray, List.map_cons, List.map_nil]); rfl) ?_; (with_reducible refine (api_Meta_60.calls k3 (fun k_ => some k_ = (.slice Ao9 x0_3.length co9 : Value).ownBlock) (.slice Ao9 x0_3.length co9) x0_3 x7_3 (wrap64 (x7_3 + x6_2)) x8_3  t149 w0 _ ?side1 ?side2 A13.out).mono ?_); (case side1 => repeat ((with_reducible exact HB.out))); (case side2 => exact Kd.R_tight rfl HO_0.out); rintro e w14 ⟨rfl, hy0, hb, hkp⟩; refine ⟨_, rfl, ?_⟩; have n0_ := Aside0.mk (Kd.R_reok rfl hy0 (fun k_ e_ => HO_0.out.1 k_ e_)); have n1_ := Aside0.mk (Kept.then_ (S := (fun k_ => P0_ k_)) HK.out hkp (fun k_ hs_ => (fun e_ => (HO_0.out.1 k_ e_.symm)) hs_)); have n2_ := Aside0.mk (hb); clear HO_0; clear HK; clear HB; have HO_0 := n0_; have HK := n1_; have HB := n2_; clear n0_ n1_ n2_; (try clear hb); (try clear hkp); (try clear hy0)))
          (try simp only [← hl0_3])
          go_roundg k3
          case measure => have := HK1.out; have := HK2.out; have := HK3.out; omega
          case rel => exact ⟨(t149), (x8_3), (wrap64 (x8_3 + (wrap64 (2 * x6_2)))), (by rfl), (by rfl), H', ⟨by have := HK1.out; have := HK2.out; have := HK3.out; omega⟩, ⟨by (try simp only [hl0_3]); exact HO_0.out⟩, ⟨HK.out⟩, ⟨HB.out⟩⟩
         ·
          rw [if_neg c12] at H; have c12b0 : decide (x8_3 ≤ a1) = false := decide_eq_false c12; clear c12
          by_cases c15 : (wrap64 (x7_3 + x6_2)) < a1
          ·
           rw [if_pos c15] at H; have c15b0 : decide ((wrap64 (x7_3 + x6_2)) < a1) = true := decide_eq_true c15; clear c15; replace H := Option.bind_eq_some_iff.mp H; obtain ⟨t150, A160, H⟩ := H; replace H : (api_Meta_43.l1 k3 t150 a1 (wrap64 (x6_2 * 2))) = some r := H; have A16 := Aside0.mk A160; clear A160; have H' := Aside0.mk H; clear H
           go_wp2_with (((with_reducible refine gate_callee (f := 60) rfl ?_); refine goesL_ (some 60) rfl rfl Try.func60 (by kernel_rfl) rfl #[.slice Ao9 x0_3.length co9, .int .i64 x7_3, .int .i64 (wrap64 (x7_3 + x6_2)), .int .i64 a1, .func (.func 27) #[] #[]] rfl (by (try simp only [List.map_toArray, List.map_cons, List.map_nil]); rfl) ?_; (with_reducible refine (api_Meta_60.calls k3 (fun k_ => some k_ = (.slice Ao9 x0_3.length co9 : Value).ownBlock) (.slice Ao9 x0_3.length co9) x0_3 x7_3 (wrap64 (x7_3 + x6_2)) a1  t150 w0 _ ?side1 ?side2 A16.out).mono ?_); (case side1 => repeat ((with_reducible exact HB.out))); (case side2 => exact Kd.R_tight rfl HO_0.out); rintro e w17 ⟨rfl, hy0, hb, hkp⟩; refine ⟨_, rfl, ?_⟩; have n0_ := Aside0.mk (Kd.R_reok rfl hy0 (fun k_ e_ => HO_0.out.1 k_ e_)); have n1_ := Aside0.mk (Kept.then_ (S := (fun k_ => P0_ k_)) HK.out hkp (fun k_ hs_ => (fun e_ => (HO_0.out.1 k_ e_.symm)) hs_)); have n2_ := Aside0.mk (hb); clear HO_0; clear HK; clear HB; have HO_0 := n0_; have HK := n1_; have HB := n2_; clear n0_ n1_ n2_; (try clear hb); (try clear hkp); (try clear hy0)))
           (try simp only [← hl0_2, ← hl0_3])
           go_roundg k3
           case measure => have := HK1.out; have := HK2.out; have := HK3.out; omega
           case rel => exact ⟨(t150), (wrap64 (x6_2 * 2)), (by rfl), H', ⟨by have := HK1.out; have := HK2.out; have := HK3.out; omega⟩, ⟨by (try simp only [hl0_2]); (try simp only [hl0_3]); exact HO_0.out⟩, ⟨HK.out⟩, ⟨HB.out⟩⟩
          ·
           rw [if_neg c15] at H; have c15b0 : decide ((wrap64 (x7_3 + x6_2)) < a1) = false := decide_eq_false c15; clear c15; have H' := Aside0.mk H; clear H; go_wp2
           (try simp only [← hl0_2, ← hl0_3])
           go_roundg k3
           case measure => have := HK1.out; have := HK2.out; have := HK3.out; omega
           case rel => exact ⟨(x0_3), (wrap64 (x6_2 * 2)), (by rfl), H', ⟨by have := HK1.out; have := HK2.out; have := HK3.out; omega⟩, ⟨by (try simp only [hl0_2]); (try simp only [hl0_3]); exact HO_0.out⟩, ⟨HK.out⟩, ⟨HB.out⟩⟩
      ·
       rw [if_neg c11] at H; have c11b0 : decide (x6_2 < a1) = false := decide_eq_false c11; clear c11; obtain rfl := Option.some.inj H; go_wp2
       (go_end0)
       exact ⟨by rfl, (by (exact HO_0.out)), by repeat ((with_reducible exact HB.out)), by repeat ((with_reducible exact HK.out))⟩
def api_Meta_28.f (k : Nat) (l0 : List (S25))  : Option ((List (S25))) := (api_Meta_43.f k l0 (l0.length : Int)).bind fun t151 => (some t151)
theorem api_Meta_28.calls (k : Nat) (P0_ : Nat → Prop) (u9000_ : Value) (l0 : List (S25))  (r : List (S25)) (w0 w : World) (hB : Below w0.heap.size w0 w) (ho0 : Kd.R k25 25 w w0.heap.size P0_ u9000_ l0) (h : api_Meta_28.f k l0 = some r) :
  Calls Try.prog 28 #[u9000_, .func (.func 27) #[] #[]] w fun e w' => e = .returned (.tuple #[]) ∧ Kd.R k25 25 w' w0.heap.size (fun k_ => (P0_ k_ ∨ w.heap.size ≤ k_)) u9000_ r ∧ Below w0.heap.size w0 w' ∧ Kept w w' (fun k_ => P0_ k_) := by
 have HO0 := Aside0.mk (show Kd.R k25 25 w w0.heap.size (fun k_ => (P0_ k_ ∨ w.heap.size ≤ k_)) u9000_ l0 from Kd.R_mono ho0 (fun k_ hk => (.inl hk))); have HK := Aside0.mk (Kept.refl w (fun k_ => P0_ k_)); have HB := Aside0.mk hB; clear hB; have H : ((api_Meta_43.f k l0 (l0.length : Int)).bind fun t151 => (some t151)) = some r := h; clear h; replace H := Option.bind_eq_some_iff.mp H; obtain ⟨t151, A30, H⟩ := H; replace H : (some t151) = some r := H; have A3 := Aside0.mk A30; clear A30; obtain rfl := Option.some.inj H; obtain ⟨Ao4, co4, eo4⟩ := Kd.R_slice HO0.out; subst eo4; go_enter Try.func28, Try.ntmps28
 go_wp2_with (((with_reducible refine gate_callee (f := 43) rfl ?_); refine goesL_ (some 8) rfl rfl Try.func43 (by kernel_rfl) rfl #[.slice Ao4 l0.length co4, .int .i64 (l0.length : Int), .func (.func 27) #[] #[]] rfl (by (try simp only [List.map_toArray, List.map_cons, List.map_nil]); rfl) ?_; (with_reducible refine (api_Meta_43.calls k (fun k_ => some k_ = (.slice Ao4 l0.length co4 : Value).ownBlock) (.slice Ao4 l0.length co4) l0 (l0.length : Int)  t151 w0 _ ?side1 ?side2 A3.out).mono ?_); (case side1 => repeat ((with_reducible exact HB.out))); (case side2 => exact Kd.R_tight rfl HO0.out); rintro e w5 ⟨rfl, hy0, hb, hkp⟩; refine ⟨_, rfl, ?_⟩; have n0_ := Aside0.mk (Kd.R_reok rfl hy0 (fun k_ e_ => HO0.out.1 k_ e_)); have n1_ := Aside0.mk (Kept.then_ (S := (fun k_ => P0_ k_)) HK.out hkp (fun k_ hs_ => (fun e_ => (HO0.out.1 k_ e_.symm)) hs_)); have n2_ := Aside0.mk (hb); clear HO0; clear HK; clear HB; have HO0 := n0_; have HK := n1_; have HB := n2_; clear n0_ n1_ n2_; (try clear hb); (try clear hkp); (try clear hy0)))
 (go_end0)
 exact ⟨by rfl, by exact HO0.out, by repeat ((with_reducible exact HB.out)), by repeat ((with_reducible exact HK.out))⟩
end Go.Proofs.Ytgagcimfkmegnaa.QS
end
section
namespace Go.Proofs
open Go.Shelf
def Try.cloneMeta_ren : Go.Shelf.Ren := ⟨fun | 41 => 25 | n => n, fun | 22 => 22 | 23 => 25 | 4 => 4 | n => n, fun | n => n⟩
theorem Try.cloneMeta : Go.Proofs.SlLaysE0.n41 Try.prog Try.cloneMeta_ren := {
 mixed := by kernel_rfl
 f41 := ⟨Try.f25.name, by decide, Try.func25.trans (congrArg some (by kernel_rfl))⟩
 t4 := Try.underlying4
 a4 := Try.isAgg4
 z4 := Try.sizeOf4
 v4 := Try.zeroValue4
 t22 := Try.underlying22
 a22 := Try.isAgg22
 z22 := Try.sizeOf22
 v22 := Try.zeroValue22 }
def Try.indexMeta_ren : Go.Shelf.Ren := ⟨fun | 6 => 39 | n => n, fun | 22 => 22 | 23 => 25 | 25 => 72 | 3 => 3 | 0 => 0 | 4 => 4 | n => n, fun | n => n⟩
theorem Try.indexMeta : Go.Proofs.SlLaysH0.n6 Try.prog Try.indexMeta_ren := {
 mixed := by kernel_rfl
 f6 := ⟨Try.f39.name, by decide, Try.func39.trans (congrArg some (by kernel_rfl))⟩
 t0 := Try.underlying0
 a0 := Try.isAgg0
 z0 := Try.sizeOf0
 v0 := Try.zeroValue0
 t3 := Try.underlying3
 a3 := Try.isAgg3
 z3 := Try.sizeOf3
 v3 := Try.zeroValue3
 t4 := Try.underlying4
 a4 := Try.isAgg4
 z4 := Try.sizeOf4
 v4 := Try.zeroValue4
 t22 := Try.underlying22
 a22 := Try.isAgg22
 z22 := Try.sizeOf22
 v22 := Try.zeroValue22
 t25 := Try.underlying72
 a25 := Try.isAgg72
 z25 := Try.sizeOf72
 v25 := Try.zeroValue72 }
end Go.Proofs
end
section
set_option maxHeartbeats 2000000
namespace Go.Proofs.Ytgagcimfkmegnaa
open Go.RowKit Go.Proofs.YtgagcimfkmegnaaW.PrintWords Go.Proofs.YtgagcimfkmegnaaW.PrintLast Go.Proofs.YtgagcimfkmegnaaW.PrintMore Go.Proofs.Ytgagcimfkmegnaa.QT
instance : Inhabited S25 := ⟨z25⟩
def cellsMeta (x : S25) : List Value := [.string x.f0, .int .i64 x.f1, .int .i64 x.f2, .int .u32 x.f3]
theorem isAggMeta : ∀ w, (isAgg 25).run Try.prog w = .ok true w := fun w => by kernel_rfl
theorem sizeMeta : ∀ w, (Go.sizeOf 25).run Try.prog w = .ok 4 w := fun w => by kernel_rfl
theorem zeroMeta : ∀ w, (zeroValue 25).run Try.prog w = .ok (.agg #[.string ⟨#[]⟩, .int .i64 0, .int .i64 0, .int .u32 0]) w := fun w => by kernel_rfl
/-- What is asked of the function value: in whatever world comes of w0 by growth and by writes to block gb alone it answers p. -/
def Answers (w0 : World) (gb : Option Nat) (g : Nat) (cb : Array Value) (p : S25 → Bool) : Prop :=
 ∀ W, w0.grownBy W gb → ∀ x : S25, Calls Try.prog g (#[.agg #[.string x.f0, .int .i64 x.f1, .int .i64 x.f2, .int .u32 x.f3]] ++ cb) W fun e w' => e = .returned (.bool (p x)) ∧ Below W.heap.size W w'
theorem first_of {α : Type} [Inhabited α] (p : α → Bool) : ∀ (l : List α) (i : Nat), (Lib.idxByFrom (fun _ y => p y) default l i = -1 ∧ ∀ x ∈ l, p x = false) ∨ ∃ k, k < l.length ∧ Lib.idxByFrom (fun _ y => p y) default l i = ((i + k : Nat) : Int) ∧ l.filter (fun x => !p x) = l.take k ++ (l.drop (k + 1)).filter (fun x => !p x)
 | [], _ => .inl ⟨rfl, fun x h => by cases h⟩
 | y :: r, i => by
  cases h : p y with
  | true => exact .inr ⟨0, by simp, by simp [Lib.idxByFrom, h], by simp [h]⟩
  | false =>
   rcases first_of p r (i + 1) with ⟨e, ha⟩ | ⟨k, hk, e, hf⟩
   ·
    exact .inl ⟨by simp [Lib.idxByFrom, h, e], fun x hx => by rcases List.mem_cons.1 hx with rfl | hx; exact h; exact ha x hx⟩
   ·
    refine .inr ⟨k + 1, by simpa using hk, by simp only [Lib.idxByFrom, h]; rw [show (if false = true then (i : Int) else Lib.idxByFrom (fun _ y => p y) default r (i + 1)) = Lib.idxByFrom (fun _ y => p y) default r (i + 1) from rfl, e]; congr 1; omega, by simp [h, hf]⟩
/-- slices.IndexFunc at Metas. -/
theorem index_meta (p : S25 → Bool) (g : Nat) (cb : Array Value) (eg : ∀ args w, (callFunc g args).run Try.prog w = .ok (.enter g args) w) (base : Nat) (P0 : Nat → Prop) (gb cap n : Nat) (l : List S25) (w : World)
  (hR : Kd.R k25 25 w base P0 (.slice (some ⟨gb, 0, none⟩) n cap) l) (hp : Answers w none g cb p) :
  Calls Try.prog 39 #[.slice (some ⟨gb, 0, none⟩) n cap, .func (.func g) #[] cb] w fun e w' => e = .returned (.int .i64 (Lib.idxByFrom (fun _ y => p y) default l 0)) ∧ Below w.heap.size w w' := by
 obtain ⟨hn, hnc, hC⟩ := Kd.R_reads' hR
 have hlt : gb < w.heap.size := by
  obtain ⟨_, inner, ho, _⟩ := hR; exact own_lt ho gb rfl
 have h := AnyQ.slices_IndexFunc Try.indexMeta 4 isAggMeta sizeMeta cellsMeta (fun _ => rfl) p g cb eg gb 0 n cap l w
  (fun W x hb => (hp W (grown_of_below hb none) x).mono fun _ _ h => ⟨h.1, below_then hb hb.size h.2⟩) (by omega) (by have := hC.2.1; omega) hlt (fun j hj i v hv => by
   obtain ⟨c, hcl, hM, hcc, _⟩ := Kd.R_elem hR z25 (j : Int) (by omega) (by omega); obtain rfl := k25_openM hM; have : w.cell? ⟨gb, (j : Int).toNat * 4 + i, none⟩ = some v := hcc i v (by rw [← hv]; simp only [cellsMeta]; rw [show l[j]! = l.getD (j : Int).toNat z25 from by simp [List.getD_eq_getElem?_getD, List.getElem!_eq_getElem?_getD]; rfl])
   simpa using this)
 rw [List.take_of_length_le (by omega)] at h; exact h
theorem delete_meta (p : S25 → Bool) (g : Nat) (cb : Array Value) (eg : ∀ args w, (callFunc g args).run Try.prog w = .ok (.enter g args) w) (base : Nat) (P0 : Nat → Prop) (gb cap n : Nat) (l : List S25) (w : World)
  (hR : Kd.R k25 25 w base P0 (.slice (some ⟨gb, 0, none⟩) n cap) l) (hp : Answers w (some gb) g cb p) :
  Calls Try.prog 24 #[.slice (some ⟨gb, 0, none⟩) n cap, .func (.func g) #[] cb] w fun e w' => e = .returned (.slice (some ⟨gb, 0, none⟩) (l.filter fun x => !p x).length cap) ∧ Kd.R k25 25 w' base P0 (.slice (some ⟨gb, 0, none⟩) (l.filter fun x => !p x).length cap) (l.filter fun x => !p x) ∧ w.grownBy w' (some gb) := by
 have hI := index_meta p g cb eg base P0 gb cap n l w hR (fun W hg x => hp W ⟨hg.os, hg.tape, hg.output, hg.size, fun k hk _ => hg.block k hk (by simp)⟩ x); obtain ⟨hn, hnc, hC⟩ := Kd.R_reads' hR; have hmax := hC.2.1; clear hC; have HR := Lib.hid hR; have HP := Lib.hid hp; have Hn := Lib.hid hn; clear hR hp hn; rcases first_of p l 0 with ⟨e1, hall⟩ | ⟨k0, hk0, e1, hf⟩
 ·
  rw [e1] at hI; have hall' : l.filter (fun x => !p x) = l := List.filter_eq_self.2 fun x hx => by rw [hall x hx]; rfl
  have HI := Lib.hid hI; clear hI e1 hall; go_enter Try.func24, Try.ntmps24
  go_wp2_with fail
  with_reducible refine HI.out.mono ?_
  rintro e w1 ⟨rfl, hb1⟩; have Hb1 := Lib.hid hb1; clear hb1; go_wp2; go_ret; rw [hall', ← Hn.out]; exact ⟨rfl, Kd.R_below HR.out Hb1.out, grown_of_below Hb1.out _⟩
 ·
  rw [e1, Nat.zero_add] at hI; have HI := Lib.hid hI; have Hf := Lib.hid hf; clear hI e1 hf; have hne1 : ((k0 : Int) == -1) = false := beq_eq_false_iff_ne.2 (by omega); have hkn : k0 < n := by have := Hn.out; omega
  go_enter Try.func24, Try.ntmps24
  go_wp2_with fail
  with_reducible refine HI.out.mono ?_
  rintro e w1 ⟨rfl, hb1⟩; have Hb1 := Lib.hid hb1; clear hb1; go_wp2; go_loopg [5, 6, 7] n (fun gg s5 s6 _ wr => ∃ (i j : Nat) (dk : List S25), s5 = .int .i64 i ∧ s6 = .int .i64 j ∧ i < j ∧ j ≤ n ∧ n - j ≤ gg ∧ Hid (i = ((l.take j).filter (fun x => !p x)).length) ∧ Hid (dk.length = n) ∧ Hid (dk.take i = (l.take j).filter (fun x => !p x)) ∧ Hid (dk.drop j = l.drop j) ∧ Hid (Kd.R k25 25 wr base P0 (.slice (some ⟨gb, 0, none⟩) n cap) dk) ∧ Hid (w.grownBy wr (some gb)))
  case atStart =>
   have hk : (l.take (k0 + 1)).filter (fun x => !p x) = l.take k0 := by
    have h2 := Hf.out; have h3 : l.filter (fun x => !p x) = (l.take (k0 + 1)).filter (fun x => !p x) ++ (l.drop (k0 + 1)).filter (fun x => !p x) := by rw [← List.filter_append, List.take_append_drop]
    rw [h3] at h2; exact List.append_cancel_right h2
   exact ⟨k0, k0 + 1, l, rfl, by go_num, by omega, by omega, by omega, Lib.hid (by rw [hk, List.length_take]; have := Hn.out; omega), Lib.hid Hn.out.symm, Lib.hid hk.symm, Lib.hid rfl, Lib.hid (Kd.R_below HR.out Hb1.out), Lib.hid (grown_of_below Hb1.out _)⟩
  case round =>
   obtain ⟨i, j, dk, rfl, rfl, hij, hjn, hgg, Hi, Hl, Ht, Hd, HD, HG⟩ := hrel
   by_cases hlt : j < n
   ·
    have hlti : (j : Int) < (n : Int) := by omega
    have hjd : j < dk.length := by have := Hl.out; omega
    have hjl : j < l.length := by have := Hn.out; omega
    obtain ⟨x, hx⟩ : ∃ x, dk.getD j z25 = x := ⟨_, rfl⟩
    have hxl : l[j]? = some x := by
     have h1 : dk[j]? = some x := by rw [← hx, List.getD_eq_getElem?_getD, List.getElem?_eq_getElem hjd]; rfl
     have h2 := congrArg (·[0]?) Hd.out; simpa [List.getElem?_drop, h1] using h2.symm
    have hstep : (l.take (j + 1)).filter (fun x => !p x) = (l.take j).filter (fun x => !p x) ++ (if p x = true then [] else [x]) := by
     rw [List.take_add_one, hxl, Option.toList_some, List.filter_append]
     congr 1
     cases h : p x <;> simp [h]
    have Hstep := Lib.hid hstep; obtain ⟨c, hcl, hM, hcc, hfr⟩ := Kd.R_elem HD.out z25 (j : Int) (by omega) (by omega); rw [Int.toNat_natCast, hx] at hM; obtain rfl := k25_openM hM; have c0 : wr.cell? ⟨gb, j * 4, none⟩ = some (.string x.f0) := hcc 0 _ rfl; have c1 : wr.cell? ⟨gb, j * 4 + 1, none⟩ = some (.int .i64 x.f1) := hcc 1 _ rfl; have c2 : wr.cell? ⟨gb, j * 4 + 2, none⟩ = some (.int .i64 x.f2) := hcc 2 _ rfl; have c3 : wr.cell? ⟨gb, j * 4 + 3, none⟩ = some (.int .u32 x.f3) := hcc 3 _ rfl
    have hgbl : gb < wr.heap.size := by
     obtain ⟨_, inner, ho, _⟩ := HD.out; exact own_lt ho gb rfl
    clear hx hxl hcl hM hcc hfr hstep
    have hag : w.grownBy (wr.alloc (.cells #[.string x.f0, .int .i64 x.f1, .int .i64 x.f2, .int .u32 x.f3] 25)) (some gb) :=
     ⟨HG.out.os, HG.out.tape, HG.out.output, by have := HG.out.size; simp; omega, fun k hk hne => (Below.heap_alloc wr _ k (Nat.lt_of_lt_of_le hk HG.out.size)).trans (HG.out.block k hk hne)⟩
    have HC := Lib.hid (HP.out _ hag x); have Hag := Lib.hid hag; have HDa := Lib.hid (Kd.R_alloc HD.out (.cells #[.string x.f0, .int .i64 x.f1, .int .i64 x.f2, .int .u32 x.f3] 25)); have Hbx := Lib.hid (blk_new wr (.cells #[.string x.f0, .int .i64 x.f1, .int .i64 x.f2, .int .u32 x.f3] 25)); clear hag
    cases hpx : p x with
    | true =>
     have HC2 : Hid _ := Lib.hid HC.out; rw [hpx] at HC2; have Hpx := Lib.hid hpx; clear hpx HC; go_wp2_with fail
     with_reducible refine HC2.out.mono ?_
     rintro e w2 ⟨rfl, hb2⟩; have Hb2 := Lib.hid hb2; clear hb2 c0 c1 c2 c3; go_wp2; go_roundg (n - (j + 1))
     case measure => omega
     case rel =>
      exact ⟨i, j + 1, dk, rfl, by go_num, by omega, by omega, Nat.le_refl _, Lib.hid (by rw [Hstep.out, Hpx.out, if_pos rfl, List.append_nil]; exact Hi.out), Hl, Lib.hid (by rw [Hstep.out, Hpx.out, if_pos rfl, List.append_nil]; exact Ht.out), Lib.hid (by rw [← List.drop_drop, Hd.out, List.drop_drop]), Lib.hid (Kd.R_below HDa.out Hb2.out), Lib.hid ⟨Hb2.out.os.trans Hag.out.os, Hb2.out.tape.trans Hag.out.tape, Hb2.out.output.trans Hag.out.output, Nat.le_trans Hag.out.size Hb2.out.size, fun k hk hne => (Hb2.out.block k (Nat.lt_of_lt_of_le hk Hag.out.size)).trans (Hag.out.block k hk hne)⟩⟩
    | false =>
     have HC2 : Hid _ := Lib.hid HC.out; rw [hpx] at HC2; have Hpx := Lib.hid hpx; clear hpx HC; go_wp2_with fail
     with_reducible refine HC2.out.mono ?_
     rintro e w2 ⟨rfl, hb2⟩; have Hb2 := Lib.hid hb2; have HD2 := Lib.hid (Kd.R_below HDa.out hb2); have HG2 : Hid (w.grownBy w2 (some gb)) := Lib.hid ⟨hb2.os.trans Hag.out.os, hb2.tape.trans Hag.out.tape, hb2.output.trans Hag.out.output, Nat.le_trans Hag.out.size hb2.size, fun k hk hne => (hb2.block k (Nat.lt_of_lt_of_le hk Hag.out.size)).trans (Hag.out.block k hk hne)⟩; have hbx := blk_below Hbx.out hb2; have b0 : w2.cell? ⟨wr.heap.size, 0, none⟩ = some (.string x.f0) := (blk_cell hbx 0).trans rfl; have b1 : w2.cell? ⟨wr.heap.size, 1, none⟩ = some (.int .i64 x.f1) := (blk_cell hbx 1).trans rfl; have b2 : w2.cell? ⟨wr.heap.size, 2, none⟩ = some (.int .i64 x.f2) := (blk_cell hbx 2).trans rfl; have b3 : w2.cell? ⟨wr.heap.size, 3, none⟩ = some (.int .u32 x.f3) := (blk_cell hbx 3).trans rfl; obtain ⟨c, hcl, hM, hcc, hfr⟩ := Kd.R_elem HD2.out z25 (i : Int) (by omega) (by omega); rw [Int.toNat_natCast] at hM hcc hfr; have Hseg := Lib.hid (Kd.R_seg HD2.out (i : Int) (by omega) (by omega) (seg := [.string x.f0, .int .i64 x.f1, .int .i64 x.f2, .int .u32 x.f3]) (j := 0) hcl (by rw [Int.toNat_natCast]; exact hcc) (by rw [show k25.sz = 4 from rfl]; exact Nat.le_refl 4) (x' := x) (okp := fun k_ => (P0 k_ ∧ k_ ≠ gb)) (by have e1 : c.drop 4 = [] := List.drop_eq_nil_of_le (by rw [hcl]; exact Nat.le_refl 4); simp only [List.take_zero, List.nil_append]; rw [show 0 + [Value.string x.f0, .int .i64 x.f1, .int .i64 x.f2, .int .u32 x.f3].length = 4 from rfl, e1, List.append_nil]; exact k25_mkM _ _ _ x) (fun _ hk => hk)); obtain rfl := k25_openM hM; have d0 : w2.cell? ⟨gb, i * 4, none⟩ = some (.string (dk.getD i z25).f0) := hcc 0 _ rfl; have d1 : w2.cell? ⟨gb, i * 4 + 1, none⟩ = some (.int .i64 (dk.getD i z25).f1) := hcc 1 _ rfl; have d2 : w2.cell? ⟨gb, i * 4 + 2, none⟩ = some (.int .i64 (dk.getD i z25).f2) := hcc 2 _ rfl; have d3 : w2.cell? ⟨gb, i * 4 + 3, none⟩ = some (.int .u32 (dk.getD i z25).f3) := hcc 3 _ rfl; have f0 : w2.frozen? ⟨gb, i * 4, none⟩ = false := hfr 0; have f1 : w2.frozen? ⟨gb, i * 4 + 1, none⟩ = false := hfr 1; have f2 : w2.frozen? ⟨gb, i * 4 + 2, none⟩ = false := hfr 2; have f3 : w2.frozen? ⟨gb, i * 4 + 3, none⟩ = false := hfr 3; clear hb2 c0 c1 c2 c3 hbx hcl hM hcc hfr; go_wp2; go_roundg (n - (j + 1))
     case measure => omega
     case rel =>
      refine ⟨i + 1, j + 1, dk.set i x, by go_num, by go_num, by omega, by omega, Nat.le_refl _, Lib.hid ?_, Lib.hid (by rw [List.length_set]; exact Hl.out), Lib.hid ?_, Lib.hid ?_, ?_, ?_⟩
      ·
       rw [Hstep.out, Hpx.out, if_neg (by simp), List.length_append, ← Hi.out]; rfl
      ·
       have hid : i < dk.length := by have := Hl.out; omega
       rw [Hstep.out, Hpx.out, if_neg (by simp), ← Ht.out, List.take_add_one, List.getElem?_set_self hid, Option.toList_some, List.take_set_of_le (Nat.le_refl i)]
      ·
       rw [List.drop_set_of_lt (by omega), ← List.drop_drop, Hd.out, List.drop_drop]
      ·
       have h := Hseg.out.1; rw [Int.toNat_natCast] at h; exact Lib.hid h
      ·
       have h := Hseg.out.2; rw [Int.toNat_natCast] at h
       have h3 : w.grownBy (w2.setCells gb (i * k25.sz + 0) [.string x.f0, .int .i64 x.f1, .int .i64 x.f2, .int .u32 x.f3]) (some gb) := ⟨h.os.trans HG2.out.os, h.tape.trans HG2.out.tape, h.output.trans HG2.out.output, Nat.le_trans HG2.out.size h.size, fun k hk hne => (h.block k (Nat.lt_of_lt_of_le hk HG2.out.size) hne).trans (HG2.out.block k hk hne)⟩
       exact Lib.hid h3
   ·
    obtain rfl : j = n := by omega
    have hlti : ¬ (j : Int) < (j : Int) := by omega
    have hid : i ≤ dk.length := by have := Hl.out; omega
    have hfin : (l.take j).filter (fun x => !p x) = l.filter (fun x => !p x) := by rw [List.take_of_length_le (by have := Hn.out; omega)]
    have Hfin := Lib.hid hfin
    obtain ⟨vs, hvs⟩ : ∃ vs, (Builtin.zeroCells #[Value.string ⟨#[]⟩, .int .i64 0, .int .i64 0, .int .u32 0] (j - i)).toList = vs := ⟨_, rfl⟩
    have hcl : ∀ ty, (Builtin.clear_ #[22] ty #[.slice (some ⟨gb, i * 4, none⟩) (j - i) (cap - i)]).run Try.prog wr = .ok (.tuple #[]) (wr.setCells gb (i * 4) vs) := fun ty => by
     rw [← hvs]; refine run_clear_row wr 22 25 ty _ _ Try.underlying22 zeroMeta rfl (by decide +kernel) gb (i * 4) (j - i) (cap - i) (by omega) (fun t ht => ?_) (fun t ht => ?_)
     ·
      have ht4 : t < (j - i) * 4 := ht; obtain ⟨c, hc1, hM, hcc, hfr⟩ := Kd.R_elem HD.out z25 ((i + t / 4 : Nat) : Int) (by omega) (by omega); rw [Int.toNat_natCast] at hcc; have h4 : t % 4 < c.length := by rw [hc1]; exact Nat.mod_lt _ (by decide)
      have := hcc (t % 4) c[t % 4] (List.getElem?_eq_getElem h4); rw [show (i + t / 4) * k25.sz + t % 4 = i * 4 + t from by show (i + t / 4) * 4 + t % 4 = _; omega] at this; rw [this]; rfl
     ·
      have ht4 : t < (j - i) * 4 := ht; obtain ⟨c, hc1, hM, hcc, hfr⟩ := Kd.R_elem HD.out z25 ((i + t / 4 : Nat) : Int) (by omega) (by omega); have := hfr (t % 4); rw [Int.toNat_natCast, show (i + t / 4) * k25.sz + t % 4 = i * 4 + t from by show (i + t / 4) * 4 + t % 4 = _; omega] at this; exact this
    have Hp := Lib.hid (Past.R_past vs (i * 4) wr (Kd.R_take HD.out hid) (by rw [List.length_take, Nat.min_eq_left hid]; exact Nat.le_refl _)); clear hvs hid; go_wp2; go_ret; have h := Hp.out; rw [Ht.out, Hfin.out] at h; have hi := Hi.out; rw [Hfin.out] at hi; rw [← hi]; exact ⟨rfl, h.1, ⟨h.2.os.trans HG.out.os, h.2.tape.trans HG.out.tape, h.2.output.trans HG.out.output, Nat.le_trans HG.out.size h.2.size, fun k hk hne => (h.2.block k (Nat.lt_of_lt_of_le hk HG.out.size) hne).trans (HG.out.block k hk hne)⟩⟩
end Go.Proofs.Ytgagcimfkmegnaa
end
section
set_option maxHeartbeats 2000000
set_option maxRecDepth 100000
namespace Go.Proofs.Ytgagcimfkmegnaa
open Go.RowKit Go.Proofs.YtgagcimfkmegnaaW.PrintWords Go.Proofs.YtgagcimfkmegnaaW.PrintLast Go.Proofs.YtgagcimfkmegnaaW.PrintMore Go.Proofs.Ytgagcimfkmegnaa.QT Go.Proofs.Ytgagcimfkmegnaa.QS
theorem infoMeta : (Try.prog.info? 25).map (fun i => (i.zero, i.size, i.bytes)) = some (some (.agg #[.string ⟨#[]⟩, .int .i64 0, .int .i64 0, .int .u32 0]), 4, 40) := by kernel_rfl
theorem clone_empty (ad : Addr) (c : Nat) (w : World) :
  Calls Try.prog 25 #[.slice (some ad) 0 c] w fun e w' => ∃ v', e = .returned v' ∧ w'.ownsRow w.heap.size 25 4 v' 0 [] ∧ Below w.heap.size w w' := by
 obtain ⟨i0, hi, hz0, hz1, hz2⟩ := info_parts infoMeta; have q22 : ∀ (w : World) (a : Option Addr) (n c n' c' : Nat), (binOp .eql 22 (.slice a n c) (.slice none n' c')).run Try.prog w = .ok (.bool a.isNone) w := fun w a n c n' c' => Lib.run_eql_slice_nil w _ _ a n c n' c' Try.underlying22; go_enter Try.func25, Try.ntmps25
 go_wp2_with (at_builtin; refine wpList_append_own _ rfl _ _ 22 rfl w.heap.size 25 i0 _ 4 40 Try.underlying22 hi hz0 hz1 hz2 rfl (by decide) _ _ _ rfl (World.ownsRow_made w #[] 0 (Nat.le_refl _) (Nat.zero_le _) (by simp)) ad 0 c [] rfl rfl (by simp) (by simp) (by simp) (by simp) (by simp) ?_)
 intro v' w1 hown hgrow hnil; go_wp2; go_ret; exact ⟨v', rfl, by simpa using hown, ((Below.refl _ w).alloc (Nat.le_refl _) _).grown hgrow (by simp) (by intro k hk; simp [Value.ownBlock] at hk; omega)⟩
def clone_Meta.f (l : List S25) : Option (List S25) := if l.length * 40 ≤ 140737488355328 then some l else none
theorem clone_Meta.calls (A0 : Option Addr) (c0 : Nat) (l0 : List (S25)) (r : List (S25)) (w : World) (hr0 : Kd.C k25 w A0 l0.length l0) (hc0 : l0.length ≤ c0) (h : clone_Meta.f l0 = some r) :
  Calls Try.prog 25 #[.slice A0 l0.length c0] w fun e w' => ∃ v0_ : Value, e = .returned v0_ ∧ Kd.R k25 25 w' w.heap.size (fun _ => True) v0_ r ∧ Below w.heap.size w w' := by
 unfold clone_Meta.f at h
 split at h
 ·
  rename_i hb
  cases h; have hlen : l0.length ≤ 9223372036854775807 := hr0.2.1
  cases A0 with
  | none =>
   have h0 : l0.length = 0 := by
    rcases Nat.eq_zero_or_pos l0.length with h | h
    ·
     exact h
    ·
     obtain ⟨ad, e, _⟩ := hr0.2.2 h; cases e
   have hl : l0 = [] := List.eq_nil_of_length_eq_zero h0; subst hl
   exact (AnyE.slices_Clone_nil Try.cloneMeta 0 c0 w).mono fun e w' ⟨he, hw⟩ => ⟨_, he, by rw [hw]; exact Kd.R_nil _ _ _ _ _, by rw [hw]; exact Below.refl _ _⟩
  | some ad =>
   obtain ⟨b, off, spot⟩ := ad
   cases spot with
   | none =>
    obtain ⟨i0, hi, hz0, hz1, hz2⟩ := info_parts infoMeta
    have hcell : ∀ j x, l0[j]? = some x → ∀ i u, (cellsMeta x)[i]? = some u → w.cell? ⟨b, off + (j * 4 + i), none⟩ = some u := by
     intro j x hj i u hu; have hjl : j < l0.length := (List.getElem?_eq_some_iff.1 hj).1; obtain ⟨ad, e, hc⟩ := hr0.2.2 (by omega); cases e; obtain ⟨c, hcl, hK, hcc⟩ := hc j x hj; obtain rfl := k25_open hK; have := hcc i u hu; rw [show k25.sz = 4 from rfl] at this; unfold Addr.add at this
     split at this
     ·
      rename_i hz; rw [hz]; exact this
     ·
      exact this
    have hflat : ∀ j u, (l0.flatMap cellsMeta)[j]? = some u → ∃ x, l0[j / 4]? = some x ∧ (cellsMeta x)[j % 4]? = some u := by
     intro j u hju; clear hr0 hc0 hb hlen hcell
     induction l0 generalizing j with
     | nil => simp at hju
     | cons y ys ih =>
      rw [List.flatMap_cons] at hju
      by_cases hj : j < 4
      ·
       rw [List.getElem?_append_left (by simpa [cellsMeta] using hj)] at hju; exact ⟨y, by rw [Nat.div_eq_of_lt hj]; rfl, by rw [Nat.mod_eq_of_lt hj]; exact hju⟩
      ·
       rw [List.getElem?_append_right (by simp [cellsMeta]; omega)] at hju; obtain ⟨x, h1, h2⟩ := ih (j - 4) (by simpa [cellsMeta] using hju); exact ⟨x, by rw [show j / 4 = (j - 4) / 4 + 1 from by omega, List.getElem?_cons_succ]; exact h1, by rw [show j % 4 = (j - 4) % 4 from by omega]; exact h2⟩
    have hfl : (l0.flatMap cellsMeta).length = l0.length * 4 := by
     clear hr0 hc0 hb hlen hcell hflat
     induction l0 with
     | nil => rfl
     | cons y ys ih => rw [List.flatMap_cons, List.length_append, ih]; simp [cellsMeta]; omega
    have hcl := AnyE.slices_Clone Try.cloneMeta i0 _ 4 40 hi hz0 hz1 hz2 rfl (by decide) sizeMeta b off l0.length c0 (l0.flatMap cellsMeta) w hfl (by unfold maxLen; omega) (by omega)
     (fun j u hj => by
      obtain ⟨x, h1, h2⟩ := hflat j u hj; have := hcell _ x h1 _ u h2
      rwa [show j / 4 * 4 + j % 4 = j from by omega] at this)
     (fun u hu => by
      obtain ⟨j, hj⟩ := List.getElem?_of_mem hu; obtain ⟨x, _, h2⟩ := hflat j u hj; have := List.mem_of_getElem? h2; simp only [cellsMeta, List.mem_cons, List.not_mem_nil, or_false] at this
      rcases this with rfl | rfl | rfl | rfl <;> rfl)
    refine hcl.mono fun e w' ⟨v', he, ho, _, hB⟩ => ⟨v', he, ⟨fun _ _ => trivial, _, ho, hfl, fun j x hj => ?_⟩, hB⟩
    have hjl : j < l0.length := (List.getElem?_eq_some_iff.1 hj).1
    have e4 : ((l0.flatMap cellsMeta).drop (j * 4)).take 4 = cellsMeta x := by
     apply List.ext_getElem?; intro i
     by_cases hi4 : i < 4
     ·
      rw [List.getElem?_take_of_lt hi4, List.getElem?_drop]
      obtain ⟨u, hu⟩ : ∃ u, (l0.flatMap cellsMeta)[j * 4 + i]? = some u := ⟨_, List.getElem?_eq_getElem (by rw [hfl]; omega)⟩
      obtain ⟨x', h1, h2⟩ := hflat _ u hu; rw [show (j * 4 + i) / 4 = j from by omega, hj] at h1; cases h1; rw [hu, ← h2, show (j * 4 + i) % 4 = i from by omega]
     ·
      rw [List.getElem?_eq_none (by rw [List.length_take]; omega), List.getElem?_eq_none (by simp [cellsMeta]; omega)]
    show k25.M _ _ _ x (((l0.flatMap cellsMeta).drop (j * 4)).take 4); rw [e4]
    exact k25_mkM _ _ _ x
   | some s =>
    have h0 : l0.length = 0 := by
     rcases Nat.eq_zero_or_pos l0.length with h | h
     ·
      exact h
     ·
      obtain ⟨ad, e, hc⟩ := hr0.2.2 h; cases e; obtain ⟨c, hcl, hK, hcc⟩ := hc 0 _ (List.getElem?_eq_getElem h); have h1 := hcc 0 (c[0]'(by rw [hcl]; decide)) (List.getElem?_eq_getElem (by rw [hcl]; decide)); have := World.cell?_spot h1; simp [Addr.add] at this
    have hl : l0 = [] := List.eq_nil_of_length_eq_zero h0; subst hl
    refine (clone_empty _ c0 w).mono fun e w' ⟨v', he, ho, hB⟩ => ⟨v', he, ⟨fun _ _ => trivial, _, ho, rfl, fun j x hj => by simp at hj⟩, hB⟩
 ·
  cases h
end Go.Proofs.Ytgagcimfkmegnaa
end
section
namespace Go.Proofs.Ytgagcimfkmegnaa
open Go.RowKit Go.Proofs.YtgagcimfkmegnaaW.PrintWords Go.Proofs.Ytgagcimfkmegnaa.QT Go.Proofs.Ytgagcimfkmegnaa.StableLaw
theorem or_two (t u : Int) : Ev (fun k => QS.cmp_Or_int.f k [t, u]) (if t = 0 then u else t) := by
 unfold QS.cmp_Or_int.f
 by_cases h : t = 0
 ·
  subst h; refine Ev.step (f := fun k => QS.cmp_Or_int.l0 k 0 [0, u] 2 1) (fun k => by simp [QS.cmp_Or_int.l0, show rd [0, u] 0 = 0 from rfl, w64 (x := 1) (by omega) (by omega)]) ?_
  by_cases h : u = 0
  ·
   subst h; refine Ev.step (f := fun k => QS.cmp_Or_int.l0 k 0 [0, 0] 2 2) (fun k => by simp [QS.cmp_Or_int.l0, show rd [0, 0] 1 = 0 from rfl, w64 (x := 2) (by omega) (by omega)]) ?_; exact Ev.step (f := fun k => some 0) (fun k => by simp [QS.cmp_Or_int.l0]) (Ev.now _)
  ·
   refine Ev.step (f := fun k => some u) (fun k => ?_) (Ev.now _); have : rd [0, u] 1 = u := rfl; simp [QS.cmp_Or_int.l0, this, h]
 ·
  rw [if_neg h]; refine Ev.step (f := fun k => some t) (fun k => ?_) (Ev.now _); have : rd [t, u] 0 = t := rfl; simp [QS.cmp_Or_int.l0, this, h]
theorem order_ev (a b : S25) : Ev (fun k => QS.peers_order.f k a.f0 a.f1 a.f2 a.f3 b.f0 b.f1 b.f2 b.f3) (ordM a b) := by
 have e1 : QS.cmp_Compare_int.f a.f1 b.f1 = some (if a.f1 < b.f1 then -1 else if a.f1 > b.f1 then 1 else 0) := by
  simp only [QS.cmp_Compare_int.f, QS.cmp_isNaN_int.f, bne_self_eq_false, Option.bind_some, Bool.false_eq_true, if_false]
  split
  ·
   rfl
  ·
   split <;> rfl
 have e2 : cmp_Compare_string.f a.f0 b.f0 = some (cmpStr a.f0 b.f0) := rfl; unfold QS.peers_order.f; refine Ev.congr (fun k => by rw [e1, Option.bind_some, e2, Option.bind_some]) ?_; refine (or_two _ _).bind (f := fun _ t => some t) ?_
 have : (if (if a.f1 < b.f1 then (-1 : Int) else if a.f1 > b.f1 then 1 else 0) = 0 then cmpStr a.f0 b.f0 else (if a.f1 < b.f1 then -1 else if a.f1 > b.f1 then 1 else 0)) = ordM a b := by
  unfold ordM
  by_cases h1 : a.f1 < b.f1
  ·
   simp [h1]
  ·
   by_cases h2 : a.f1 > b.f1
   ·
    simp [h1, h2]
   ·
    simp [h1, h2]
 rw [this]; exact Ev.now _
/-- The printed functions are a family of the law's. -/
def famMeta : SortFam S25 where
 z := z25
 cm := fun k a b => QS.peers_order.f k a.f0 a.f1 a.f2 a.f3 b.f0 b.f1 b.f2 b.f3
 sw := QS.api_Meta_92.l0
 sw_eq := fun k x0 x1 x2 x3 x10 => rfl
 rot := QS.api_Meta_71.l0
 rot_eq := fun k x0 x2 x10 x11 => rfl
 i0 := QS.api_Meta_59.l0
 i1 := QS.api_Meta_59.l1
 i0_eq := fun k x0 x1 x2 x8 => by rw [QS.api_Meta_59.l0]
 i1_eq := fun k x0 x1 x2 x8 x9 => by rw [QS.api_Meta_59.l1]; rfl
 m0 := QS.api_Meta_60.l0
 m1 := QS.api_Meta_60.l1
 m2 := QS.api_Meta_60.l2
 m3 := QS.api_Meta_60.l3
 j4 := QS.api_Meta_60.j4
 l4 := QS.api_Meta_60.l4
 j6 := QS.api_Meta_60.j6
 j7 := QS.api_Meta_60.j7
 j8 := QS.api_Meta_60.j8
 mf := QS.api_Meta_60.f
 m0_eq := fun k x0 x1 x10 x11 => by rw [QS.api_Meta_60.l0]; rfl
 m1_eq := fun k x0 x10 x13 => by rw [QS.api_Meta_60.l1]; rfl
 m2_eq := fun k x0 x2 x14 x15 => by rw [QS.api_Meta_60.l2]; rfl
 m3_eq := fun k x0 x14 x17 => by rw [QS.api_Meta_60.l3]; rfl
 j4_eq := fun k x0 x1 x2 x3 x18 x19 x20 x21 => by rw [QS.api_Meta_60.j4]
 l4_eq := fun k x0 x1 x2 x3 x18 x19 x20 x21 x22 => by rw [QS.api_Meta_60.l4]; rfl
 j6_eq := fun k x0 x1 x2 x3 x18 x20 x24 x185 => by rw [QS.api_Meta_60.j6]; rfl
 j7_eq := fun k x0 x1 x3 x18 x20 x24 => by rw [QS.api_Meta_60.j7]
 j8_eq := fun k x0 x1 x3 x18 x20 x24 x199 => by rw [QS.api_Meta_60.j8]
 mf_eq := fun k l0 a1 a2 a3 => by rw [QS.api_Meta_60.f]
 s0 := QS.api_Meta_43.l0
 s1 := QS.api_Meta_43.l1
 s2 := QS.api_Meta_43.l2
 s0_eq := fun k x0 x1 x6 x7 x8 => by rw [QS.api_Meta_43.l0]; rfl
 s1_eq := fun k x0 x1 x6 => by rw [QS.api_Meta_43.l1]
 s2_eq := fun k x0 x1 x6 x7 x8 => by rw [QS.api_Meta_43.l2]
/-- slices.SortStableFunc at Metas by order. -/
theorem sortMeta (l : List S25) (hb : l.length ≤ 549755813888) : ∃ r, Srt ltM l r ∧ Ev (fun k => QS.api_Meta_28.f k l) r := by
 obtain ⟨r, hr, hev⟩ := stable_ev famMeta ordLt ordM (fun _ _ => rfl) order_ev l hb; exact ⟨r, hr, hev.bind (f := fun _ t => some t) (Ev.now _)⟩
end Go.Proofs.Ytgagcimfkmegnaa
end
