/- The document's Alike: nobody differs from anybody. -/
import Derived.Test.YtcdpcgcfonjnfaaRepRef
import Derived.Test.YtcdpcgcfonjnfaaQT6
namespace Go.Proofs.Ytcdpcgcfonjnfaa
set_option linter.unusedVariables false
set_option linter.unusedSimpArgs false
open Go.RowKit Go.Proofs.YtcdpcgcfonjnfaaW.PrintWords Go.Proofs.YtcdpcgcfonjnfaaW.PrintLast Go.Proofs.YtcdpcgcfonjnfaaW.PrintMore Go.Proofs.Ytcdpcgcfonjnfaa.QT
namespace Rp
def refD (a b : List Mt) : List Pc := b.foldl (refStep a b) []
theorem refD_ev (a b : List Mt) (ha : a.length ≤ 1000000) (hb : b.length ≤ 1000000) : Ev (fun k => thermographref19_Diff.f k a b) (refD a b) := by
  have h := rdiff_ev0 a b ha hb b.length 0 [] (by omega) (Nat.le_refl _)
  rw [List.drop_zero] at h
  exact Ev.congr (fun k => by unfold thermographref19_Diff.f; rfl) h
def nd (L : List (List Mt)) (i j : Nat) : Prop := refD (rd_L4 L (i : Int)) (rd_L4 L (j : Int)) = []
theorem ral1 (L : List (List Mt)) (hn : L.length ≤ 1000000) (hl : ∀ i : Nat, (rd_L4 L (i : Int)).length ≤ 1000000) (i : Nat) (hi : i < L.length) (Pi : Prop)
    (K : ∃ r, Ev (fun k => thermographref19_Alike.l0 k L ((i + 1 : Nat) : Int)) r ∧ (r = true ↔ Pi)) :
    ∀ (d k : Nat), k + d = L.length → ∃ r, Ev (fun q => thermographref19_Alike.l1 q L (i : Int) (k : Int)) r ∧ (r = true ↔ (∀ j, k ≤ j → j < L.length → nd L i j) ∧ Pi)
  | 0, k, h => by
    obtain ⟨r, hr, hh⟩ := K
    refine ⟨r, Ev.step (fun q => by rw [thermographref19_Alike.l1, if_neg (by omega), wrapN i (by omega)]) hr, hh.trans ⟨fun hp => ⟨fun j h1 h2 => absurd h1 (by omega), hp⟩, fun hp => hp.2⟩⟩
  | d + 1, k, h => by
    obtain ⟨r, hr, hh⟩ := ral1 L hn hl i hi Pi K d (k + 1) (by omega)
    obtain ⟨Kd, hd⟩ := refD_ev _ _ (hl i) (hl k)
    by_cases hz : refD (rd_L4 L (i : Int)) (rd_L4 L (k : Int)) = []
    · refine ⟨r, ?_, hh.trans ⟨fun hp => ⟨fun j h1 h2 => ?_, hp.2⟩, fun hp => ⟨fun j h1 h2 => hp.1 j (by omega) h2, hp.2⟩⟩⟩
      · obtain ⟨K2, h2⟩ := hr
        refine ⟨max Kd K2 + 1, fun q hq => ?_⟩
        obtain ⟨q', rfl⟩ : ∃ q', q = q' + 1 := ⟨q - 1, by omega⟩
        show thermographref19_Alike.l1 (q' + 1) L (i : Int) (k : Int) = _
        have g : thermographref19_Diff.f q' (rd_L4 L (i : Int)) (rd_L4 L (k : Int)) = some (refD (rd_L4 L (i : Int)) (rd_L4 L (k : Int))) := hd q' (by omega)
        rw [thermographref19_Alike.l1, if_pos (by omega), if_pos (by omega), if_pos (by omega), if_pos (by omega), g, Option.bind_some, hz, if_neg (by simp), wrapN k (by omega)]
        exact h2 q' (by omega)
      · by_cases e : j = k
        · rw [e]; exact hz
        · exact hp.1 j (by omega) h2
    · refine ⟨false, ?_, ⟨fun h => (by cases h), fun hp => absurd (hp.1 k (Nat.le_refl _) (by omega)) hz⟩⟩
      refine ⟨Kd + 1, fun q hq => ?_⟩
      obtain ⟨q', rfl⟩ : ∃ q', q = q' + 1 := ⟨q - 1, by omega⟩
      show thermographref19_Alike.l1 (q' + 1) L (i : Int) (k : Int) = _
      have g : thermographref19_Diff.f q' (rd_L4 L (i : Int)) (rd_L4 L (k : Int)) = some (refD (rd_L4 L (i : Int)) (rd_L4 L (k : Int))) := hd q' (by omega)
      have hp := List.length_pos_iff.2 hz
      rw [thermographref19_Alike.l1, if_pos (by omega), if_pos (by omega), if_pos (by omega), if_pos (by omega), g, Option.bind_some, if_pos (by omega)]
theorem ral0 (L : List (List Mt)) (hn : L.length ≤ 1000000) (hl : ∀ i : Nat, (rd_L4 L (i : Int)).length ≤ 1000000) :
    ∀ (d i : Nat), i + d = L.length → ∃ r, Ev (fun q => thermographref19_Alike.l0 q L (i : Int)) r ∧ (r = true ↔ ∀ a, i ≤ a → a < L.length → ∀ j, j < L.length → nd L a j)
  | 0, i, h => ⟨true, Ev.step (f := fun _ => some true) (fun q => by rw [thermographref19_Alike.l0, if_neg (by omega)]) (Ev.now _), ⟨fun _ a h1 h2 => absurd h1 (by omega), fun _ => rfl⟩⟩
  | d + 1, i, h => by
    have ih := ral0 L hn hl d (i + 1) (by omega)
    obtain ⟨r, hr, hh⟩ := ral1 L hn hl i (by omega) _ ih L.length 0 (by omega)
    refine ⟨r, Ev.step (fun q => by rw [thermographref19_Alike.l0, if_pos (by omega)]; rfl) hr, hh.trans ⟨fun hp a h1 h2 j hj => ?_, fun hp => ⟨fun j _ hj => hp i (Nat.le_refl _) (by omega) j hj, fun a h1 h2 j hj => hp a (by omega) h2 j hj⟩⟩⟩
    by_cases e : a = i
    · rw [e]; exact hp.1 j (Nat.zero_le _) hj
    · exact hp.2 a (by omega) h2 j hj
theorem ralike_calls (w : World) (A : Option Addr) (c : Nat) (L : List (List Mt)) (hL : Kd.C (Kd.slice 56 k56) w A L.length L) (hc : L.length ≤ c) (hn : L.length ≤ 1000000) (hl : ∀ i : Nat, (rd_L4 L (i : Int)).length ≤ 1000000) :
    ∃ r : Bool, (r = true ↔ ∀ a, a < L.length → ∀ j, j < L.length → nd L a j) ∧ Calls Try.prog 11 #[.slice A L.length c] w fun e w' => e = .returned (.bool r) ∧ Below w.heap.size w w' := by
  obtain ⟨r, hr, hh⟩ := ral0 L hn hl L.length 0 (by omega)
  have hf : Ev (fun k => thermographref19_Alike.f k L) r := Ev.congr (fun k => by unfold thermographref19_Alike.f; rfl) hr
  obtain ⟨k, hk⟩ := hf.rounds
  exact ⟨r, hh.trans ⟨fun h a ha => h a (Nat.zero_le _) ha, fun h a _ ha => h a ha⟩, thermographref19_Alike.calls k A c L r w hL hc hk⟩
end Rp
end Go.Proofs.Ytcdpcgcfonjnfaa
