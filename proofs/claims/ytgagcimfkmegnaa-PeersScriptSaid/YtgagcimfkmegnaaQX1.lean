-- Laid by wip/tools/myprint.py of this repo. Not trusted: Lean checks it.
import Derived.Test.YtgagcimfkmegnaaFnV
section
namespace Go.Proofs.Ytgagcimfkmegnaa
open Go.RowKit Go.Proofs.YtgagcimfkmegnaaW.PrintWords Go.Proofs.YtgagcimfkmegnaaW.PrintLast Go.Proofs.YtgagcimfkmegnaaW.PrintMore
section
variable {P : Program}
theorem run_clear_row (w : World) (t e ty : TypeId) (z : Value) (zc : Array Value) (ht : P.underlying t = some (.slice e)) (hv : ∀ w, (zeroValue e).run P w = .ok z w) (hz : z.cells = zc) (h1 : ∀ v ∈ zc, v.oneCell' = true) (b o n c : Nat) (hn : 0 < n)
  (hc : ∀ j, j < n * zc.size → (w.cell? ⟨b, o + j, none⟩).isSome = true) (hf : ∀ j, j < n * zc.size → w.frozen? ⟨b, o + j, none⟩ = false) :
  (Builtin.clear_ #[t] ty #[.slice (some ⟨b, o, none⟩) n c]).run P w = .ok (.tuple #[]) (w.setCells b o (Builtin.zeroCells zc n).toList) := by
 have hl : (Builtin.zeroCells zc n).toList.length = n * zc.size := by simp [Builtin.zeroCells]
 have hm : ∀ v ∈ (Builtin.zeroCells zc n).toList, v.oneCell' = true := by
  intro v hv'; simp only [Builtin.zeroCells, Array.toList_map, List.mem_map] at hv'; obtain ⟨j, hj, rfl⟩ := hv'; rcases Nat.eq_zero_or_pos zc.size with h0 | h0
  ·
   exfalso
   simp [h0] at hj
  ·
   have hlt := Nat.mod_lt j h0
   first
    | exact h1 _ (by simp [hlt])
 have hst := run_storeCells_cells (P := P) b o (Builtin.zeroCells zc n).toList 0 w (by rw [hl]; simpa using hc) (by rw [hl]; simpa using hf) hm; simp only [Nat.add_zero] at hst
 obtain ⟨m, rfl⟩ : ∃ m, n = m + 1 := ⟨n - 1, by omega⟩
 simp [Builtin.clear_, run_underlying ht, hv, hz, hst]
end
theorem heap_setCell_at (w : World) (g o : Nat) (v : Value) (cur : Array Value) (e : TypeId) (fr : Nat × Nat) (h : w.heap[g]? = some (.cells cur e fr)) : (w.setCell ⟨g, o, none⟩ v).heap[g]? = some (.cells (cur.setIfInBounds o v) e fr) := by
 simp [World.setCell, Array.getElem?_modify, h]
theorem own_past {w : World} {base : Nat} {e : TypeId} {size n g cap o : Nat} {xs : List Value} (h : w.ownsRow base e size (.slice (some ⟨g, 0, none⟩) n cap) n xs) (ho : n * size ≤ o) (v : Value) : (w.setCell ⟨g, o, none⟩ v).ownsRow base e size (.slice (some ⟨g, 0, none⟩) n cap) n xs := by
 obtain ⟨h1, h2⟩ := h; rcases h2 with ⟨hx, _⟩ | ⟨g', cap', cur, hx, hb, hh, hn, hm, hs, ht⟩
 ·
  cases hx
 ·
  cases hx; refine ⟨h1, .inr ⟨g, cap, cur.setIfInBounds o v, rfl, hb, heap_setCell_at w g o v cur e (0, 0) hh, hn, hm, by simpa using hs, ?_⟩⟩; rw [← ht]; apply List.ext_getElem?; intro i
  by_cases hi : i < n * size
  ·
   rw [List.getElem?_take_of_lt hi, List.getElem?_take_of_lt hi]; simp only [Array.getElem?_toList, Array.getElem?_setIfInBounds]; rw [if_neg (by omega)]
  ·
   rw [List.getElem?_eq_none (by rw [List.length_take]; omega), List.getElem?_eq_none (by rw [List.length_take]; omega)]
namespace Past
open Kd
variable {α : Type} {d : Kd α} {e : Nat} {w : World} {base : Nat} {ok : Nat → Prop} {xs : List α} {g n cap : Nat}
theorem R_past1 (h : d.R e w base ok (.slice (some ⟨g, 0, none⟩) n cap) xs) (o : Nat) (ho : xs.length * d.sz ≤ o) (v : Value) : d.R e (w.setCell ⟨g, o, none⟩ v) base ok (.slice (some ⟨g, 0, none⟩) n cap) xs := by
 obtain ⟨hn, _, _⟩ := Kd.R_reads' h; subst hn; obtain ⟨h0, inner, ho1, hr⟩ := h; refine ⟨h0, inner, own_past ho1 ho v, hr.imp_ (fun x cs hM => ?_)⟩; exact Kd.M_step hM (fun k hk _ => Below.heap_setCell w ⟨g, o, none⟩ v k (fun e_ => hk.2 (by subst e_; rfl)))
theorem grown_setCell (w : World) (g o : Nat) (v : Value) : w.grownBy (w.setCell ⟨g, o, none⟩ v) (some g) :=
 ⟨rfl, rfl, rfl, by simp [World.setCell], fun k hk hne => Below.heap_setCell w ⟨g, o, none⟩ v k (fun e_ => hne (by rw [e_]))⟩
theorem R_past : ∀ (vs : List Value) (o : Nat) (w : World), d.R e w base ok (.slice (some ⟨g, 0, none⟩) n cap) xs → xs.length * d.sz ≤ o → d.R e (w.setCells g o vs) base ok (.slice (some ⟨g, 0, none⟩) n cap) xs ∧ w.grownBy (w.setCells g o vs) (some g)
 | [], o, w, h, _ => ⟨h, ⟨rfl, rfl, rfl, Nat.le_refl _, fun _ _ _ => rfl⟩⟩
 | v :: vs, o, w, h, ho => by
  obtain ⟨h2, g2⟩ := R_past vs (o + 1) (w.setCell ⟨g, o, none⟩ v) (R_past1 h o ho v) (by omega); have g1 := grown_setCell w g o v; exact ⟨h2, ⟨g2.os.trans g1.os, g2.tape.trans g1.tape, g2.output.trans g1.output, Nat.le_trans g1.size g2.size, fun k hk hne => (g2.block k (Nat.lt_of_lt_of_le hk g1.size) hne).trans (g1.block k hk hne)⟩⟩
end Past
end Go.Proofs.Ytgagcimfkmegnaa
end
section
set_option maxHeartbeats 8000000
set_option maxRecDepth 100000
namespace Go.Proofs.Ytgagcimfkmegnaa.QX
open Go.Proofs.Ytgagcimfkmegnaa.QT
open Go.RowKit Go.Proofs.YtgagcimfkmegnaaW.PrintWords Go.Proofs.YtgagcimfkmegnaaW.PrintLast Go.Proofs.YtgagcimfkmegnaaW.PrintMore
attribute [local go_sem] max2_int min2_int max_two min_two max_three min_three max_four min_four   -- for this text's walks alone
set_option linter.unusedVariables false
set_option linter.unusedSimpArgs false
def merge_Merge_1.f (a0_0 : Int) (a0_1 : Int) (a0_2 : Int) (a1_0 : Int) (a1_1 : Int) (a1_2 : Int) : Option (Bool) := some (a0_0 == a1_0)
theorem merge_Merge_1.calls (a0_0 : Int) (a0_1 : Int) (a0_2 : Int) (a1_0 : Int) (a1_1 : Int) (a1_2 : Int) (r : Bool) (w : World) (h : merge_Merge_1.f a0_0 a0_1 a0_2 a1_0 a1_1 a1_2 = some r) :
  Calls Try.prog 55 #[.agg #[.int .i64 a0_0, .int .u64 a0_1, .int .u64 a0_2], .agg #[.int .i64 a1_0, .int .u64 a1_1, .int .u64 a1_2]] w fun e w' => e = .returned (.bool r) ∧ Below w.heap.size w w' := by
 have HB := Aside0.mk (Below.refl w.heap.size w); have H : (some (a0_0 == a1_0)) = some r := h; clear h; obtain rfl := Option.some.inj H; go_enter Try.func55, Try.ntmps55
 go_wp2_with (first | ((with_reducible refine gate_dst (N := 2) rfl ?_); refine box_event ?hg (N := 2) ?hd (cs := #[.int .i64 a0_0, .int .u64 a0_1, .int .u64 a0_2]) (t := 42) ?hr ?_; (case hd => rfl); (case hg => rfl); (case hr => go_simp; done); intro gb101 hg w3 hbox hb; have n0_ := Aside0.mk (below_step HB.out hb); have n1_ := Aside0.mk (hbox); have n2_ := Aside0.mk ((by rw [hg]; exact (below_size HB.out) : w.heap.size ≤ gb101)); clear HB; have HB := n0_; have BK101 := n1_; clear n0_ n1_ n2_ ; clear hb hbox hg) | ((with_reducible refine gate_dst (N := 3) rfl ?_); refine box_event ?hg (N := 3) ?hd (cs := #[.int .i64 a1_0, .int .u64 a1_1, .int .u64 a1_2]) (t := 42) ?hr ?_; (case hd => rfl); (case hg => rfl); (case hr => go_simp; done); intro gb102 hg w4 hbox hb; have n0_ := Aside0.mk (blk_below (g := gb101) (o := .cells #[.int .i64 a0_0, .int .u64 a0_1, .int .u64 a0_2] 42 (0, 0)) BK101.out hb); have n1_ := Aside0.mk (below_step HB.out hb); have n2_ := Aside0.mk (hbox); have n5_ := Aside0.mk ((by rw [hg]; exact Nat.ne_of_lt (blk_lt (g := gb101) (o := .cells #[.int .i64 a0_0, .int .u64 a0_1, .int .u64 a0_2] 42 (0, 0)) BK101.out) : gb101 ≠ gb102)); have n6_ := Aside0.mk ((by rw [hg]; exact Nat.ne_of_gt (blk_lt (g := gb101) (o := .cells #[.int .i64 a0_0, .int .u64 a0_1, .int .u64 a0_2] 42 (0, 0)) BK101.out) : gb102 ≠ gb101)); clear BK101; clear HB; have BK101 := n0_; have HB := n1_; have BK102 := n2_; have NB101_102 := n5_; have NB102_101 := n6_; clear n0_ n1_ n2_ n5_ n6_; clear hb hbox hg; have hcz6_0 : w4.cell? ⟨gb101, 0, none⟩ = some (.int .i64 a0_0) := (blk_cell BK101.out 0).trans rfl; have hcz7_0 : w4.cell? ⟨gb102, 0, none⟩ = some (.int .i64 a1_0) := (blk_cell BK102.out 0).trans rfl))
 go_ret; exact ⟨by rfl, by repeat ((with_reducible exact HB.out))⟩
end Go.Proofs.Ytgagcimfkmegnaa.QX
end
