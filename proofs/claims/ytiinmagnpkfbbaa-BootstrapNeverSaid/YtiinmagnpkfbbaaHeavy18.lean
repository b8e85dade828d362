/- heavy (of layer 18): what it tells. -/
import Derived.Test.YtiinmagnpkfbbaaQT4
namespace Go.Proofs.Ytiinmagnpkfbbaa
set_option linter.unusedVariables false
set_option linter.unusedSimpArgs false
open Go.RowKit Go.Proofs.YtiinmagnpkfbbaaW.PrintWords Go.Proofs.YtiinmagnpkfbbaaW.PrintLast Go.Proofs.YtiinmagnpkfbbaaW.PrintMore Go.Proofs.Ytiinmagnpkfbbaa.QT
namespace Hv
abbrev Ser := S71
abbrev Stp := S50
def serW (l : List Ser) : Nat := (l.map (fun x => x.f0.size + x.f1.length)).sum
def stepsW (l : List Stp) : Nat := (l.map (fun s => s.f4.length + serW s.f4)).sum
theorem serW_cons (x : Ser) (l : List Ser) : serW (x :: l) = x.f0.size + x.f1.length + serW l := by unfold serW; rw [List.map_cons, List.sum_cons]
theorem stepsW_cons (x : Stp) (l : List Stp) : stepsW (x :: l) = x.f4.length + serW x.f4 + stepsW l := by unfold stepsW; rw [List.map_cons, List.sum_cons]
theorem rdStep {l : List Stp} {i : Nat} (h : i < l.length) : rd_T50 l (i : Int) = l[i] := by
  unfold rd_T50
  rw [Int.toNat_natCast, List.getD_eq_getElem?_getD, List.getElem?_eq_getElem h]
  rfl
theorem rdSer {l : List Ser} {i : Nat} (h : i < l.length) : rd_T71 l (i : Int) = l[i] := by
  unfold rd_T71
  rw [Int.toNat_natCast, List.getD_eq_getElem?_getD, List.getElem?_eq_getElem h]
  rfl
theorem mn_cap (a : Nat) : 0 ≤ mn (a : Int) 1048576 ∧ mn (a : Int) 1048576 ≤ 1048576 ∧ (mn (a : Int) 1048576 ≤ 2048 → mn (a : Int) 1048576 = a) := by
  unfold mn
  split <;> omega
theorem heavy_in (l : List Stp) (hl : l.length ≤ 9223372036854775807) (i : Nat) (hi : i < l.length) (hL : l[i].f4.length ≤ 9223372036854775807) (W : Nat)
    (K : ∀ x : Int, 0 ≤ x → ∃ r, Ev (fun k => thermographlaw18_heavy.l0 k l x ((i : Int) + 1)) r ∧ (r = false → x + (W : Int) ≤ 2048)) :
    ∀ (d j : Nat) (x : Int), j + d = l[i].f4.length → 0 ≤ x → x ≤ 2099200 → ∃ r, Ev (fun k => thermographlaw18_heavy.l1 k l x (i : Int) (j : Int)) r ∧ (r = false → x + (serW (l[i].f4.drop j) : Int) + (W : Int) ≤ 2048)
  | 0, j, x, hd, h0, h1 => by
    obtain ⟨r, hr, hh⟩ := K x h0
    refine ⟨r, Ev.step (fun k => ?_) hr, fun h => ?_⟩
    · rw [thermographlaw18_heavy.l1, rdStep hi, if_pos (by omega), if_pos (by omega), if_neg (by omega)]
      have : wrap64 ((i : Int) + 1) = (i : Int) + 1 := by unfold wrap64; omega
      rw [this]
    · have := hh h
      rw [List.drop_eq_nil_of_le (by omega)]
      show x + 0 + (W : Int) ≤ 2048
      omega
  | d + 1, j, x, hd, h0, h1 => by
    have hj : j < l[i].f4.length := by omega
    by_cases hx : x ≤ 2048
    · obtain ⟨a0, a1, a2⟩ := mn_cap (l[i].f4[j].f0.size)
      obtain ⟨b0, b1, b2⟩ := mn_cap (l[i].f4[j].f1.length)
      obtain ⟨r, hr, hh⟩ := heavy_in l hl i hi hL W K d (j + 1) (x + (mn (l[i].f4[j].f0.size : Int) 1048576 + mn (l[i].f4[j].f1.length : Int) 1048576)) (by omega) (by omega) (by omega)
      refine ⟨r, Ev.step (fun k => ?_) hr, fun h => ?_⟩
      · rw [thermographlaw18_heavy.l1, rdStep hi, rdSer hj, if_pos (by omega), if_pos (by omega), if_pos (by omega), if_pos hx, if_pos (by omega)]
        generalize mn (l[i].f4[j].f0.size : Int) 1048576 = p at *
        generalize mn (l[i].f4[j].f1.length : Int) 1048576 = q at *
        have e1 : wrap64 (x + (p + q)) = x + (p + q) := by unfold wrap64; omega
        have e2 : wrap64 ((j : Int) + 1) = ((j + 1 : Nat) : Int) := by unfold wrap64; omega
        rw [e1, e2]
      · have := hh h
        rw [List.drop_eq_getElem_cons hj, serW_cons]
        generalize mn (l[i].f4[j].f0.size : Int) 1048576 = p at *
        generalize mn (l[i].f4[j].f1.length : Int) 1048576 = q at *
        have := a2 (by omega)
        have := b2 (by omega)
        push_cast
        omega
    · obtain ⟨r, hr, hh⟩ := K x h0
      refine ⟨r, Ev.step (fun k => ?_) hr, fun h => ?_⟩
      · rw [thermographlaw18_heavy.l1, rdStep hi, if_pos (by omega), if_pos (by omega), if_pos (by omega), if_neg hx]
        have : wrap64 ((i : Int) + 1) = (i : Int) + 1 := by unfold wrap64; omega
        rw [this]
      · have := hh h
        omega
theorem heavy_out (l : List Stp) (hl : l.length ≤ 9223372036854775807) (hL : ∀ s ∈ l, s.f4.length ≤ 9223372036854775807) :
    ∀ (d i : Nat) (x : Int), i + d = l.length → 0 ≤ x → ∃ r, Ev (fun k => thermographlaw18_heavy.l0 k l x (i : Int)) r ∧ (r = false → x + (stepsW (l.drop i) : Int) ≤ 2048)
  | 0, i, x, hd, h0 => by
    refine ⟨decide (x > 2048), Ev.step (f := fun k => thermographlaw18_heavy.j1 k l x (i : Int) false) (fun k => by rw [thermographlaw18_heavy.l0, if_neg (by omega)]) (Ev.step (f := fun _ => some _) (fun k => by rw [thermographlaw18_heavy.j1, if_neg (by simp)]) (Ev.now _)), fun h => ?_⟩
    have := of_decide_eq_false h
    rw [List.drop_eq_nil_of_le (by omega)]
    show x + 0 ≤ 2048
    omega
  | d + 1, i, x, hd, h0 => by
    have hi : i < l.length := by omega
    by_cases hx : x ≤ 2048
    · obtain ⟨a0, a1, a2⟩ := mn_cap (l[i].f4.length)
      obtain ⟨r, hr, hh⟩ := heavy_in l hl i hi (hL _ (List.getElem_mem hi)) (stepsW (l.drop (i + 1))) (fun x hx0 => by
        have := heavy_out l hl hL d (i + 1) x (by omega) hx0
        rwa [show ((i + 1 : Nat) : Int) = (i : Int) + 1 by omega] at this) (l[i].f4.length) 0 (x + mn (l[i].f4.length : Int) 1048576) (by omega) (by omega) (by omega)
      refine ⟨r, Ev.step (f := fun k => thermographlaw18_heavy.j1 k l x (i : Int) true) (fun k => by rw [thermographlaw18_heavy.l0, if_pos (by omega), decide_eq_true hx]) (Ev.step (fun k => ?_) hr), fun h => ?_⟩
      · rw [thermographlaw18_heavy.j1, if_pos rfl, if_pos (by omega), if_pos (by omega), rdStep hi]
        generalize mn (l[i].f4.length : Int) 1048576 = p at *
        have e1 : wrap64 (x + p) = x + p := by unfold wrap64; omega
        rw [e1]
        rfl
      · have := hh h
        rw [List.drop_eq_getElem_cons hi, stepsW_cons]
        rw [List.drop_zero] at this
        generalize mn (l[i].f4.length : Int) 1048576 = p at *
        have := a2 (by omega)
        push_cast
        omega
    · refine ⟨true, Ev.step (f := fun k => thermographlaw18_heavy.j1 k l x (i : Int) false) (fun k => by rw [thermographlaw18_heavy.l0, if_pos (by omega), decide_eq_false hx]) (Ev.step (f := fun _ => some _) (fun k => by rw [thermographlaw18_heavy.j1, if_neg (by simp), decide_eq_true (by omega)]) (Ev.now _)), fun h => by cases h⟩
theorem heavy_any (w : World) (A : Option Addr) (c : Nat) (l : List Stp) (hC : Kd.C k50 w A l.length l) (hc : l.length ≤ c) (hl : l.length ≤ 9223372036854775807) (hL : ∀ s ∈ l, s.f4.length ≤ 9223372036854775807) :
    ∃ r : Bool, (r = false → l.length + stepsW l ≤ 2048) ∧ Calls Try.prog 13 #[.slice A l.length c] w fun e w' => e = .returned (.bool r) ∧ Below w.heap.size w w' := by
  obtain ⟨r, hr, hh⟩ := heavy_out l hl hL l.length 0 (l.length : Int) (by omega) (by omega)
  have hf : Ev (fun k => thermographlaw18_heavy.f k l) r := Ev.congr (fun k => by unfold thermographlaw18_heavy.f; rfl) hr
  obtain ⟨k, hk⟩ := hf.rounds
  exact ⟨r, fun h => by have := hh h; rw [List.drop_zero] at this; omega, thermographlaw18_heavy.calls k A c l r w hC hc hk⟩
end Hv
end Go.Proofs.Ytiinmagnpkfbbaa
