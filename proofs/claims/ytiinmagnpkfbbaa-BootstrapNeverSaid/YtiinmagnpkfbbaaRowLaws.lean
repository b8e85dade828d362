/- Rows of elements of several cells: what 'clear' leaves of a row's head; a row's shorter head behind stores further on. -/
import Derived.Test.YtiinmagnpkfbbaaWMore
import Derived.Test.YtiinmagnpkfbbaaWApart
import Derived.Lib.SliceRun
import Derived.Laws.IdiomCopy
namespace Go.Proofs.Ytiinmagnpkfbbaa
open Go.RowKit Go.Proofs.YtiinmagnpkfbbaaW.PrintWords Go.Proofs.YtiinmagnpkfbbaaW.PrintLast Go.Proofs.YtiinmagnpkfbbaaW.PrintMore
section
variable {P : Program}
theorem run_clear_row (w : World) (t e ty : TypeId) (z : Value) (zc : Array Value) (ht : P.underlying t = some (.slice e)) (hv : ∀ w, (zeroValue e).run P w = .ok z w) (hz : z.cells = zc) (h1 : ∀ v ∈ zc, v.oneCell' = true) (b o n c : Nat) (hn : 0 < n)
    (hc : ∀ j, j < n * zc.size → (w.cell? ⟨b, o + j, none⟩).isSome = true) (hf : ∀ j, j < n * zc.size → w.frozen? ⟨b, o + j, none⟩ = false) :
    (Builtin.clear_ #[t] ty #[.slice (some ⟨b, o, none⟩) n c]).run P w = .ok (.tuple #[]) (w.setCells b o (Builtin.zeroCells zc n).toList) := by
  have hl : (Builtin.zeroCells zc n).toList.length = n * zc.size := by simp [Builtin.zeroCells]
  have hm : ∀ v ∈ (Builtin.zeroCells zc n).toList, v.oneCell' = true := by
    intro v hv'
    simp only [Builtin.zeroCells, Array.toList_map, List.mem_map] at hv'
    obtain ⟨j, hj, rfl⟩ := hv'
    rcases Nat.eq_zero_or_pos zc.size with h0 | h0
    · exfalso
      simp [h0] at hj
    · have hlt := Nat.mod_lt j h0
      first
        | exact h1 _ (by simp [hlt])
        | (simp only [getElem!_pos, hlt]; exact h1 _ (Array.getElem_mem hlt))
        | (simp [hlt]; exact h1 _ (Array.getElem_mem hlt))
  have hst := run_storeCells_cells (P := P) b o (Builtin.zeroCells zc n).toList 0 w (by rw [hl]; simpa using hc) (by rw [hl]; simpa using hf) hm
  simp only [Nat.add_zero] at hst
  obtain ⟨m, rfl⟩ : ∃ m, n = m + 1 := ⟨n - 1, by omega⟩
  simp [Builtin.clear_, run_underlying ht, hv, hz, hst]
end

theorem heap_setCell_at (w : World) (g o : Nat) (v : Value) (cur : Array Value) (e : TypeId) (fr : Nat × Nat) (h : w.heap[g]? = some (.cells cur e fr)) : (w.setCell ⟨g, o, none⟩ v).heap[g]? = some (.cells (cur.setIfInBounds o v) e fr) := by
  simp [World.setCell, Array.getElem?_modify, h]
theorem own_past {w : World} {base : Nat} {e : TypeId} {size n g cap o : Nat} {xs : List Value} (h : w.ownsRow base e size (.slice (some ⟨g, 0, none⟩) n cap) n xs) (ho : n * size ≤ o) (v : Value) : (w.setCell ⟨g, o, none⟩ v).ownsRow base e size (.slice (some ⟨g, 0, none⟩) n cap) n xs := by
  obtain ⟨h1, h2⟩ := h
  rcases h2 with ⟨hx, _⟩ | ⟨g', cap', cur, hx, hb, hh, hn, hm, hs, ht⟩
  · cases hx
  · cases hx
    refine ⟨h1, .inr ⟨g, cap, cur.setIfInBounds o v, rfl, hb, heap_setCell_at w g o v cur e (0, 0) hh, hn, hm, by simpa using hs, ?_⟩⟩
    rw [← ht]
    apply List.ext_getElem?
    intro i
    by_cases hi : i < n * size
    · rw [List.getElem?_take_of_lt hi, List.getElem?_take_of_lt hi]
      simp only [Array.getElem?_toList, Array.getElem?_setIfInBounds]
      rw [if_neg (by omega)]
    · rw [List.getElem?_eq_none (by rw [List.length_take]; omega), List.getElem?_eq_none (by rw [List.length_take]; omega)]
namespace Past
open Kd
variable {α : Type} {d : Kd α} {e : Nat} {w : World} {base : Nat} {ok : Nat → Prop} {xs : List α} {g n cap : Nat}
theorem R_past1 (h : d.R e w base ok (.slice (some ⟨g, 0, none⟩) n cap) xs) (o : Nat) (ho : xs.length * d.sz ≤ o) (v : Value) : d.R e (w.setCell ⟨g, o, none⟩ v) base ok (.slice (some ⟨g, 0, none⟩) n cap) xs := by
  obtain ⟨hn, _, _⟩ := Kd.R_reads' h
  subst hn
  obtain ⟨h0, inner, ho1, hr⟩ := h
  refine ⟨h0, inner, own_past ho1 ho v, hr.imp_ (fun x cs hM => ?_)⟩
  exact Kd.M_step hM (fun k hk _ => Below.heap_setCell w ⟨g, o, none⟩ v k (fun e_ => hk.2 (by subst e_; rfl)))
theorem grown_setCell (w : World) (g o : Nat) (v : Value) : w.grownBy (w.setCell ⟨g, o, none⟩ v) (some g) :=
  ⟨rfl, rfl, rfl, by simp [World.setCell], fun k hk hne => Below.heap_setCell w ⟨g, o, none⟩ v k (fun e_ => hne (by rw [e_]))⟩
theorem R_past : ∀ (vs : List Value) (o : Nat) (w : World), d.R e w base ok (.slice (some ⟨g, 0, none⟩) n cap) xs → xs.length * d.sz ≤ o → d.R e (w.setCells g o vs) base ok (.slice (some ⟨g, 0, none⟩) n cap) xs ∧ w.grownBy (w.setCells g o vs) (some g)
  | [], o, w, h, _ => ⟨h, ⟨rfl, rfl, rfl, Nat.le_refl _, fun _ _ _ => rfl⟩⟩
  | v :: vs, o, w, h, ho => by
    obtain ⟨h2, g2⟩ := R_past vs (o + 1) (w.setCell ⟨g, o, none⟩ v) (R_past1 h o ho v) (by omega)
    have g1 := grown_setCell w g o v
    exact ⟨h2, ⟨g2.os.trans g1.os, g2.tape.trans g1.tape, g2.output.trans g1.output, Nat.le_trans g1.size g2.size, fun k hk hne => (g2.block k (Nat.lt_of_lt_of_le hk g1.size) hne).trans (g1.block k hk hne)⟩⟩
end Past
end Go.Proofs.Ytiinmagnpkfbbaa
