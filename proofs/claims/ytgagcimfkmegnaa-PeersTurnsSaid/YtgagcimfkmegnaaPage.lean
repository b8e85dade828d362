/- peers.Page's parts: slices.Clone at Metas; the predicate of its DeleteFunc; the page itself. -/
import Derived.Test.YtgagcimfkmegnaaQS
import Derived.Test.YtgagcimfkmegnaaDelMeta
import Derived.Test.YtgagcimfkmegnaaLayE
import Derived.Laws.AppendOwn
namespace Go.Proofs.Ytgagcimfkmegnaa
open Go.RowKit Go.Proofs.YtgagcimfkmegnaaW.PrintWords Go.Proofs.YtgagcimfkmegnaaW.PrintLast Go.Proofs.YtgagcimfkmegnaaW.PrintMore Go.Proofs.Ytgagcimfkmegnaa.QT Go.Proofs.Ytgagcimfkmegnaa.QS

theorem infoMeta : (Try.prog.info? 25).map (fun i => (i.zero, i.size, i.bytes)) = some (some (.agg #[.string ⟨#[]⟩, .int .i64 0, .int .i64 0, .int .u32 0]), 4, 40) := by kernel_rfl

set_option maxHeartbeats 2000000 in
set_option maxRecDepth 100000 in
theorem clone_empty (ad : Addr) (c : Nat) (w : World) :
    Calls Try.prog 25 #[.slice (some ad) 0 c] w fun e w' => ∃ v', e = .returned v' ∧ w'.ownsRow w.heap.size 25 4 v' 0 [] ∧ Below w.heap.size w w' := by
  obtain ⟨i0, hi, hz0, hz1, hz2⟩ := info_parts infoMeta
  have q22 : ∀ (w : World) (a : Option Addr) (n c n' c' : Nat), (binOp .eql 22 (.slice a n c) (.slice none n' c')).run Try.prog w = .ok (.bool a.isNone) w := fun w a n c n' c' => Lib.run_eql_slice_nil w _ _ a n c n' c' Try.underlying22
  go_enter Try.func25, Try.ntmps25
  go_wp2_with (at_builtin; refine wpList_append_own _ rfl _ _ 22 rfl w.heap.size 25 i0 _ 4 40 Try.underlying22 hi hz0 hz1 hz2 rfl (by decide) _ _ _ rfl (World.ownsRow_made w #[] 0 (Nat.le_refl _) (Nat.zero_le _) (by simp)) ad 0 c [] rfl rfl (by simp) (by simp) (by simp) (by simp) (by simp) ?_)
  intro v' w1 hown hgrow hnil
  go_wp2
  go_ret
  exact ⟨v', rfl, by simpa using hown, ((Below.refl _ w).alloc (Nat.le_refl _) _).grown hgrow (by simp) (by intro k hk; simp [Value.ownBlock] at hk; omega)⟩

def clone_Meta.f (l : List S25) : Option (List S25) := if l.length * 40 ≤ 140737488355328 then some l else none
set_option maxHeartbeats 1000000 in
theorem clone_Meta.calls (A0 : Option Addr) (c0 : Nat) (l0 : List (S25)) (r : List (S25)) (w : World) (hr0 : Kd.C k25 w A0 l0.length l0) (hc0 : l0.length ≤ c0) (h : clone_Meta.f l0 = some r) :
    Calls Try.prog 25 #[.slice A0 l0.length c0] w fun e w' => ∃ v0_ : Value, e = .returned v0_ ∧ Kd.R k25 25 w' w.heap.size (fun _ => True) v0_ r ∧ Below w.heap.size w w' := by
  unfold clone_Meta.f at h
  split at h
  · rename_i hb
    cases h
    have hlen : l0.length ≤ 9223372036854775807 := hr0.2.1
    cases A0 with
    | none =>
      have h0 : l0.length = 0 := by
        rcases Nat.eq_zero_or_pos l0.length with h | h
        · exact h
        · obtain ⟨ad, e, _⟩ := hr0.2.2 h; cases e
      have hl : l0 = [] := List.eq_nil_of_length_eq_zero h0
      subst hl
      exact (AnyE.slices_Clone_nil Try.cloneMeta 0 c0 w).mono fun e w' ⟨he, hw⟩ => ⟨_, he, by rw [hw]; exact Kd.R_nil _ _ _ _ _, by rw [hw]; exact Below.refl _ _⟩
    | some ad =>
      obtain ⟨b, off, spot⟩ := ad
      cases spot with
      | none =>
        obtain ⟨i0, hi, hz0, hz1, hz2⟩ := info_parts infoMeta
        have hcell : ∀ j x, l0[j]? = some x → ∀ i u, (cellsMeta x)[i]? = some u → w.cell? ⟨b, off + (j * 4 + i), none⟩ = some u := by
          intro j x hj i u hu
          have hjl : j < l0.length := (List.getElem?_eq_some_iff.1 hj).1
          obtain ⟨ad, e, hc⟩ := hr0.2.2 (by omega)
          cases e
          obtain ⟨c, hcl, hK, hcc⟩ := hc j x hj
          obtain rfl := k25_open hK
          have := hcc i u hu
          rw [show k25.sz = 4 from rfl] at this
          unfold Addr.add at this
          split at this
          · rename_i hz; rw [hz]; exact this
          · exact this
        have hflat : ∀ j u, (l0.flatMap cellsMeta)[j]? = some u → ∃ x, l0[j / 4]? = some x ∧ (cellsMeta x)[j % 4]? = some u := by
          intro j u hju
          clear hr0 hc0 hb hlen hcell
          induction l0 generalizing j with
          | nil => simp at hju
          | cons y ys ih =>
            rw [List.flatMap_cons] at hju
            by_cases hj : j < 4
            · rw [List.getElem?_append_left (by simpa [cellsMeta] using hj)] at hju
              exact ⟨y, by rw [Nat.div_eq_of_lt hj]; rfl, by rw [Nat.mod_eq_of_lt hj]; exact hju⟩
            · rw [List.getElem?_append_right (by simp [cellsMeta]; omega)] at hju
              obtain ⟨x, h1, h2⟩ := ih (j - 4) (by simpa [cellsMeta] using hju)
              exact ⟨x, by rw [show j / 4 = (j - 4) / 4 + 1 from by omega, List.getElem?_cons_succ]; exact h1, by rw [show j % 4 = (j - 4) % 4 from by omega]; exact h2⟩
        have hfl : (l0.flatMap cellsMeta).length = l0.length * 4 := by
          clear hr0 hc0 hb hlen hcell hflat
          induction l0 with
          | nil => rfl
          | cons y ys ih => rw [List.flatMap_cons, List.length_append, ih]; simp [cellsMeta]; omega
        have hcl := AnyE.slices_Clone Try.cloneMeta i0 _ 4 40 hi hz0 hz1 hz2 rfl (by decide) sizeMeta b off l0.length c0 (l0.flatMap cellsMeta) w hfl (by unfold maxLen; omega) (by omega)
          (fun j u hj => by
            obtain ⟨x, h1, h2⟩ := hflat j u hj
            have := hcell _ x h1 _ u h2
            rwa [show j / 4 * 4 + j % 4 = j from by omega] at this)
          (fun u hu => by
            obtain ⟨j, hj⟩ := List.getElem?_of_mem hu
            obtain ⟨x, _, h2⟩ := hflat j u hj
            have := List.mem_of_getElem? h2
            simp only [cellsMeta, List.mem_cons, List.not_mem_nil, or_false] at this
            rcases this with rfl | rfl | rfl | rfl <;> rfl)
        refine hcl.mono fun e w' ⟨v', he, ho, _, hB⟩ => ⟨v', he, ⟨fun _ _ => trivial, _, ho, hfl, fun j x hj => ?_⟩, hB⟩
        have hjl : j < l0.length := (List.getElem?_eq_some_iff.1 hj).1
        have e4 : ((l0.flatMap cellsMeta).drop (j * 4)).take 4 = cellsMeta x := by
          apply List.ext_getElem?
          intro i
          by_cases hi4 : i < 4
          · rw [List.getElem?_take_of_lt hi4, List.getElem?_drop]
            obtain ⟨u, hu⟩ : ∃ u, (l0.flatMap cellsMeta)[j * 4 + i]? = some u := ⟨_, List.getElem?_eq_getElem (by rw [hfl]; omega)⟩
            obtain ⟨x', h1, h2⟩ := hflat _ u hu
            rw [show (j * 4 + i) / 4 = j from by omega, hj] at h1
            cases h1
            rw [hu, ← h2, show (j * 4 + i) % 4 = i from by omega]
          · rw [List.getElem?_eq_none (by rw [List.length_take]; omega), List.getElem?_eq_none (by simp [cellsMeta]; omega)]
        show k25.M _ _ _ x (((l0.flatMap cellsMeta).drop (j * 4)).take 4)
        rw [e4]
        exact k25_mkM _ _ _ x
      | some s =>
        have h0 : l0.length = 0 := by
          rcases Nat.eq_zero_or_pos l0.length with h | h
          · exact h
          · obtain ⟨ad, e, hc⟩ := hr0.2.2 h
            cases e
            obtain ⟨c, hcl, hK, hcc⟩ := hc 0 _ (List.getElem?_eq_getElem h)
            have h1 := hcc 0 (c[0]'(by rw [hcl]; decide)) (List.getElem?_eq_getElem (by rw [hcl]; decide))
            have := World.cell?_spot h1
            simp [Addr.add] at this
        have hl : l0 = [] := List.eq_nil_of_length_eq_zero h0
        subst hl
        refine (clone_empty _ c0 w).mono fun e w' ⟨v', he, ho, hB⟩ => ⟨v', he, ⟨fun _ _ => trivial, _, ho, rfl, fun j x hj => by simp at hj⟩, hB⟩
  · cases h
end Go.Proofs.Ytgagcimfkmegnaa
