/- slices.Sorted at what maps.Keys hands back, for a map with ints as keys. -/
import Derived.Test.YtmocpglnoehknaaLayJ
import Derived.Test.YtmocpglnoehknaaMap
import Derived.Test.YtmocpglnoehknaaWordsB
import Derived.RowKit
namespace Go.Proofs
open Go.RowKit Go.Maps Go.Sort Go.Shelf
theorem Try.sortsI (m : Nat) : AnyZI.SortsIn Try.prog Try.sortedI_ren Fence.wide m :=
  ⟨fun blk off cap ss W hH hblk hsz => callsIn_wide.2 (AnyM.slices_Sort_int Try.sortI blk off cap ss W hH hblk hsz),
   fun p cap W => callsIn_wide.2 (AnyM.slices_Sort_int_none Try.sortI p cap W)⟩
theorem Try.maps_KeysI (mb : Option Nat) (W : World) : CallsIn Fence.wide 5 Try.prog 54 #[.map mb] W fun e w' => e = .returned (.func (.func 70) #[] #[.pointer (some ⟨W.heap.size, 0, none⟩)]) ∧ w' = W.alloc (.cells #[.map mb] 94) :=
  AnyZI.keys_in Try.keysI Fence.wide 5 trivial rfl mb W
set_option maxHeartbeats 1000000 in
theorem Try.slices_Sorted_keysI {H : Type} (b nn : Nat) (D0 : DataW H) (R : Value → Option (DataW H × List MemPlace)) (w : World) (hown : w.ownsMap Try.prog 3 R b nn D0) (hmax : Maps.size D0 ≤ maxLen) (hbytes : Maps.size D0 * 8 ≤ 140737488355328) :
    CallsIn Fence.wide 5 Try.prog 53 #[.func (.func 70) #[] #[.pointer (some ⟨w.heap.size, 0, none⟩)]] (w.alloc (.cells #[.map (some b)] 94)) fun e w' => ∃ (v : Value) (ss : List Int), e = .returned v ∧ ss.Perm (intKeys D0) ∧
      w'.ownsRow (w.alloc (.cells #[.map (some b)] 94)).heap.size 3 1 v ss.length ((ss.mergeSort (fun x y => decide (x ≤ y))).map encZ) ∧ (v = .slice none 0 0 ↔ ss = []) ∧ Below (w.alloc (.cells #[.map (some b)] 94)).heap.size (w.alloc (.cells #[.map (some b)] 94)) w' := by
  have hbl := hown.lt
  have hseq : SeqGives Fence.wide 2 Try.prog 70 #[.pointer (some ⟨w.heap.size, 0, none⟩)] encZ (fun ss => ss.Perm (intKeys D0)) (Maps.size D0) (w.alloc (.cells #[.map (some b)] 94)) :=
    AnyZI.keys_gives (ρ := Try.keysI_ren) { Try.keysI with } Fence.wide _ trivial rfl (by omega) w.heap.size b nn D0 _ (by simp) (by simp) (by
      obtain ⟨es, clock, hb, Ft, hs, hD⟩ := hown
      exact ⟨es, clock, (Below.heap_alloc _ _ b hbl).trans hb, Ft, hs, hD⟩)
  exact AnyZI.sorted_in Try.sortedI Fence.wide 5 trivial trivial trivial trivial rfl (by omega) (Try.sortsI _) (enters_of Try.func69 (by kernel_rfl) rfl) 70 #[.pointer (some ⟨w.heap.size, 0, none⟩)] trivial (enters_of Try.func70 (by kernel_rfl) rfl) _ _ hmax hbytes _ hseq
end Go.Proofs
namespace Go.Proofs.Ytmocpglnoehknaa
set_option linter.unusedVariables false
set_option linter.unusedSimpArgs false
open Go.RowKit Go.Proofs.YtmocpglnoehknaaW.PrintWords Go.Proofs.YtmocpglnoehknaaW.PrintLast Go.Proofs.YtmocpglnoehknaaW.PrintMore Go.Sort
namespace KeysI
abbrev Im := List (Int × Unit)
def ekI (n : Int) : Value := .int .i64 n
def evU (_ : Unit) : Value := .agg #[]
theorem encI : XM.Enc Try.prog 3 ekI := ⟨Maps.int_keyed Try.underlying3, fun a a' h => by unfold ekI at h; cases h; rfl⟩
/-- Block b is the map gm. -/
def IM (w : World) (b : Nat) (gm : Im) : Prop := XM.MapIs Try.prog 3 ekI evU w b gm
theorem keyI (n : Int) (h : (Lit.int .i64 n).wf = true) : keyOf Try.prog 3 (.int .i64 n) = some (.int .i64 n) := by
  unfold keyOf
  rw [Try.underlying3]
  simp [mapKey, Try.underlying3, h]
theorem isKI (n : Int) (h : (Lit.int .i64 n).wf = true) : XM.IsK Try.prog 3 ekI n := ⟨_, keyI n h⟩
theorem key_of {n : Int} (h : XM.IsK Try.prog 3 ekI n) : keyOf Try.prog 3 (.int .i64 n) = some (.int .i64 n) := by
  obtain ⟨kl, hk⟩ := h
  have hk : keyOf Try.prog 3 (.int .i64 n) = some kl := hk
  obtain ⟨x, h1, h2, _⟩ := Maps.keyOf_i64 Try.underlying3 hk
  cases h1
  rw [hk, h2]
theorem own_of {w : World} {b : Nat} {gm : Im} (h : IM w b gm) : ∃ D0 : DataW Unit, w.ownsMap Try.prog 3 (fun _ => some (.nil, [])) b gm.length D0 ∧ (intKeys D0).Perm (gm.map (·.1)) ∧ Maps.size D0 = gm.length := by
  obtain ⟨es, clock, hb, hs, hst, hm, hk⟩ := h
  have hlen : es.size = gm.length := by have := congrArg List.length hm; simpa using this
  have hrg : ∀ x ∈ es.toList, ∃ n : Int, x.key = .int .i64 n ∧ WideElems.rd Try.prog 3 (fun _ => some ((.nil : DataW Unit), [])) x = some (.int .i64 n, .nil) := by
    intro x hx
    have h1 : XM.me x ∈ gm.map (XM.pe ekI evU) := by rw [← hm]; exact List.mem_map.2 ⟨x, hx, rfl⟩
    obtain ⟨p, hp, he⟩ := List.mem_map.1 h1
    have hkey : x.key = .int .i64 p.1 := (congrArg Prod.fst he).symm
    refine ⟨p.1, hkey, ?_⟩
    unfold WideElems.rd
    rw [hkey, key_of (hk p hp)]
    rfl
  refine ⟨.map ((es.toList.map (WideElems.rg Try.prog 3 (fun _ => some (.nil, [])))).foldr DataW.insert []), ⟨es, clock, hb, ⟨hs, hst, fun x hx => ?_⟩, by omega, rfl⟩, ?_, ?_⟩
  · obtain ⟨s, _, h2⟩ := hrg x hx
    exact ⟨_, h2⟩
  · have hp := WideShapes.sorted_perm (es.toList.map (WideElems.rg Try.prog 3 (fun _ => some ((.nil : DataW Unit), []))))
    refine (hp.map _).trans ?_
    rw [List.map_map]
    have e1 : es.toList.map ((fun p : Lit × DataW Unit => Go.intOf p.1) ∘ WideElems.rg Try.prog 3 (fun _ => some (.nil, []))) = (es.toList.map XM.me).map (fun p => match p.1 with | .int _ n => n | _ => 0) := by
      rw [List.map_map]
      refine List.map_congr_left (fun x hx => ?_)
      obtain ⟨s, h1, h2⟩ := hrg x hx
      simp only [Function.comp, WideElems.rg, h2, XM.me, h1]
      rfl
    rw [e1, hm, List.map_map]
    exact List.Perm.of_eq (List.map_congr_left (fun p _ => rfl))
  · rw [Maps.size_eq, (WideShapes.sorted_perm _).length_eq]
    simp [hlen]
/-- The sorted keys of a map with ints as keys. -/
theorem keys_calls (w : World) (mb : Nat) (gm : Im) (h : IM w mb gm) (hl : gm.length ≤ 1000000) :
    Calls Try.prog 53 #[.func (.func 70) #[] #[.pointer (some ⟨w.heap.size, 0, none⟩)]] (w.alloc (.cells #[.map (some mb)] 94)) fun e w' => ∃ (v : Value) (ns : List Int), e = .returned v ∧ ns.Perm (gm.map (·.1)) ∧ ns.Pairwise (· ≤ ·) ∧
      Kd.R (Kd.int .i64) 3 w' w.heap.size (fun _ => True) v ns ∧ Below w.heap.size w w' := by
  obtain ⟨D0, h1, h2, h3⟩ := own_of h
  refine (callsIn_wide.1 (Try.slices_Sorted_keysI (H := Unit) mb gm.length D0 _ w h1 (by rw [h3]; unfold maxLen; omega) (by rw [h3]; omega))).mono ?_
  rintro e w' ⟨v, ss, rfl, hs, hr, hn, hb⟩
  have hperm := List.mergeSort_perm ss (fun x y => decide (x ≤ y))
  have hpw : (ss.mergeSort (fun x y => decide (x ≤ y))).Pairwise (fun a b => a ≤ b) := by
    have := List.pairwise_mergeSort (le := fun x y : Int => decide (x ≤ y)) (fun a b c h1 h2 => by simp only [decide_eq_true_eq] at *; exact Int.le_trans h1 h2) (fun a b => by simp only [Bool.or_eq_true, decide_eq_true_eq]; exact Int.le_total a b) ss
    exact this.imp (fun h => of_decide_eq_true h)
  have hsz : w.heap.size ≤ (w.alloc (.cells #[.map (some mb)] 94)).heap.size := by simp
  refine ⟨v, ss.mergeSort (fun x y => decide (x ≤ y)), rfl, hperm.trans (hs.trans h2), hpw, ?_, below_then (below_alloc (Below.refl _ _) _) hsz hb⟩
  refine Kd.R_lower (Kd.R_of_own (h1 := fun _ => rfl) ?_ (fun _ _ => trivial)) hsz
  rw [hperm.length_eq]
  exact hr
end KeysI
end Go.Proofs.Ytmocpglnoehknaa
