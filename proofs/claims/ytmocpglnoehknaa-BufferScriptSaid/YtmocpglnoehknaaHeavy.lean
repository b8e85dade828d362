/- heavy: what it tells; the steps of a script. -/
import Derived.Test.YtmocpglnoehknaaTakeNil
import Derived.Test.YtmocpglnoehknaaQHa
namespace Go.Proofs.Ytmocpglnoehknaa
set_option linter.unusedVariables false
set_option linter.unusedSimpArgs false
open Go.RowKit Go.Proofs.YtmocpglnoehknaaW.PrintWords Go.Proofs.YtmocpglnoehknaaW.PrintLast Go.Proofs.YtmocpglnoehknaaW.PrintMore Go.Proofs.Ytmocpglnoehknaa.QT Go.Proofs.Ytmocpglnoehknaa.QH
namespace Buf
abbrev Stp := S47
theorem heavy_l (l : List Stp) (hl : l.length ≤ 9223372036854775807) : ∀ (d : Nat) (x i : Int), 0 ≤ i → i ≤ l.length → (l.length : Int) - i = d → ∃ r, Ev (fun k => thermographlaw11_heavy.l0 k l x i) r ∧ (r = false → l.length ≤ 256)
  | 0, x, i, h0, h1, h2 => by
    by_cases h : x > 8192
    · exact ⟨true, Ev.step (f := fun _ => some true) (fun k => by rw [thermographlaw11_heavy.l0, if_neg (by omega), if_pos h]) (Ev.now _), fun h => by cases h⟩
    · exact ⟨decide ((l.length : Int) > 256), Ev.step (f := fun _ => some _) (fun k => by rw [thermographlaw11_heavy.l0, if_neg (by omega), if_neg h]) (Ev.now _), fun h => by have := of_decide_eq_false h; omega⟩
  | d + 1, x, i, h0, h1, h2 => by
    by_cases h : x ≤ 8192
    · obtain ⟨r, hr, hh⟩ := heavy_l l hl d (wrap64 (x + (mn (((rd_T47 l i).f3).size : Int) 1048576))) (i + 1) (by omega) (by omega) (by omega)
      refine ⟨r, Ev.step (fun k => ?_) hr, hh⟩
      rw [thermographlaw11_heavy.l0, if_pos (by omega), if_pos h, if_pos h0]
      have : wrap64 (i + 1) = i + 1 := by unfold wrap64; omega
      rw [this]
    · exact ⟨true, Ev.step (f := fun _ => some true) (fun k => by rw [thermographlaw11_heavy.l0, if_pos (by omega), if_neg h, if_pos (by omega)]) (Ev.now _), fun h => by cases h⟩
theorem heavy_any (w : World) (A : Option Addr) (c : Nat) (l : List Stp) (hC : Kd.C k47 w A l.length l) (hc : l.length ≤ c) (hl : l.length ≤ 9223372036854775807) :
    ∃ r : Bool, (r = false → l.length ≤ 256) ∧ Calls Try.prog 16 #[.slice A l.length c] w fun e w' => e = .returned (.bool r) ∧ Below w.heap.size w w' := by
  obtain ⟨r, hr, hh⟩ := heavy_l l hl l.length (l.length : Int) 0 (Int.le_refl _) (by omega) (by omega)
  have hf : Ev (fun k => thermographlaw11_heavy.f k l) r := Ev.congr (fun k => by unfold thermographlaw11_heavy.f; rfl) hr
  obtain ⟨k, hk⟩ := hf.rounds
  exact ⟨r, hh, thermographlaw11_heavy.calls k A c l r w hC hc hk⟩
theorem rd47_mem {l : List Stp} {i : Int} (h0 : 0 ≤ i) (h1 : i < l.length) : rd_T47 l i ∈ l := by
  have h : i.toNat < l.length := by omega
  have e : rd_T47 l i = l[i.toNat] := by unfold rd_T47; rw [List.getD_eq_getElem?_getD, List.getElem?_eq_getElem h]; rfl
  rw [e]
  exact List.getElem_mem h
end Buf
end Go.Proofs.Ytmocpglnoehknaa
