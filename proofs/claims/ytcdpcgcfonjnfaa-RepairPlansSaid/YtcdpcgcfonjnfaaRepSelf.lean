/- RepairSelf: the walk. -/
import Derived.Test.YtcdpcgcfonjnfaaRepSelfA
namespace Go.Proofs.Ytcdpcgcfonjnfaa
set_option linter.unusedVariables false
set_option linter.unusedSimpArgs false
open Go.RowKit Go.Proofs.YtcdpcgcfonjnfaaW.PrintWords Go.Proofs.YtcdpcgcfonjnfaaW.PrintLast Go.Proofs.YtcdpcgcfonjnfaaW.PrintMore Go.Proofs.Ytcdpcgcfonjnfaa.QT
namespace Rp
theorem mn_cap (a : Nat) : 0 ≤ mn (a : Int) 1048576 ∧ mn (a : Int) 1048576 ≤ 1048576 ∧ (mn (a : Int) 1048576 ≤ 512 → mn (a : Int) 1048576 = a) := by
  unfold mn
  split <;> omega
theorem rdLL {L : List (List Mt)} {i : Nat} (h : i < L.length) : rd_L4 L (i : Int) = L[i] := by
  unfold rd_L4
  rw [Int.toNat_natCast, List.getD_eq_getElem?_getD, List.getElem?_eq_getElem h]
  rfl
def sumL (L : List (List Mt)) : Nat := (L.map List.length).sum
theorem heavy_ev (L : List (List Mt)) (hl : L.length ≤ 9223372036854775807) : ∀ (d i : Nat) (x : Int), i + d = L.length → 0 ≤ x → ∃ r, Ev (fun k => thermographlaw19_heavy.l0 k L x (i : Int)) r ∧ (r = false → x + (sumL (L.drop i) : Int) ≤ 512)
  | 0, i, x, hd, h0 => by
    refine ⟨decide (x > 512), Ev.step (f := fun _ => some _) (fun k => by rw [thermographlaw19_heavy.l0, if_neg (by omega)]) (Ev.now _), fun h => ?_⟩
    have := of_decide_eq_false h
    rw [List.drop_eq_nil_of_le (by omega)]
    show x + 0 ≤ 512
    omega
  | d + 1, i, x, hd, h0 => by
    have hi : i < L.length := by omega
    by_cases hx : x ≤ 512
    · obtain ⟨a0, a1, a2⟩ := mn_cap (L[i].length)
      obtain ⟨r, hr, hh⟩ := heavy_ev L hl d (i + 1) (x + mn (L[i].length : Int) 1048576) (by omega) (by omega)
      refine ⟨r, Ev.step (fun k => ?_) hr, fun h => ?_⟩
      · rw [thermographlaw19_heavy.l0, if_pos (by omega), if_pos hx, if_pos (by omega), rdLL hi]
        generalize mn (L[i].length : Int) 1048576 = p at *
        have e1 : wrap64 (x + p) = x + p := by unfold wrap64; omega
        have e2 : wrap64 ((i : Int) + 1) = ((i + 1 : Nat) : Int) := by unfold wrap64; omega
        rw [e1, e2]
      · have := hh h
        rw [List.drop_eq_getElem_cons hi]
        unfold sumL at this ⊢
        rw [List.map_cons, List.sum_cons]
        generalize mn (L[i].length : Int) 1048576 = p at *
        have := a2 (by omega)
        push_cast
        omega
    · exact ⟨true, Ev.step (f := fun _ => some _) (fun k => by rw [thermographlaw19_heavy.l0, if_pos (by omega), if_neg hx, decide_eq_true (by omega)]) (Ev.now _), fun h => by cases h⟩
theorem heavy_any (w : World) (A : Option Addr) (c : Nat) (L : List (List Mt)) (hC : Kd.C kLL w A L.length L) (hc : L.length ≤ c) :
    ∃ r : Bool, (r = false → L.length + sumL L ≤ 512) ∧ Calls Try.prog 5 #[.slice A L.length c] w fun e w' => e = .returned (.bool r) ∧ Below w.heap.size w w' := by
  obtain ⟨r, hr, hh⟩ := heavy_ev L hC.2.1 L.length 0 (L.length : Int) (by omega) (by omega)
  have hf : Ev (fun k => thermographlaw19_heavy.f k L) r := Ev.congr (fun k => by unfold thermographlaw19_heavy.f; rfl) hr
  obtain ⟨k, hk⟩ := hf.rounds
  exact ⟨r, fun h => by have := hh h; rw [List.drop_zero] at this; omega, thermographlaw19_heavy.calls k A c L r w hC hc hk⟩
end Rp
end Go.Proofs.Ytcdpcgcfonjnfaa
