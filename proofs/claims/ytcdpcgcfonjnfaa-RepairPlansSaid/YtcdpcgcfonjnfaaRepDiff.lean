/- repair.Diff. -/
import Derived.Test.YtcdpcgcfonjnfaaRepApp
import Derived.Test.YtcdpcgcfonjnfaaRepSortNil
import Derived.Test.YtcdpcgcfonjnfaaRepDel
namespace Go.Proofs.Ytcdpcgcfonjnfaa
set_option linter.unusedVariables false
set_option linter.unusedSimpArgs false
open Go.RowKit Go.Proofs.YtcdpcgcfonjnfaaW.PrintWords Go.Proofs.YtcdpcgcfonjnfaaW.PrintLast Go.Proofs.YtcdpcgcfonjnfaaW.PrintMore Go.Proofs.Ytcdpcgcfonjnfaa.QT
namespace Rp
theorem collect_calls (gc b : Nat) (m : Pm) (w : World) (hgc : w.heap[gc]? = some (.cells #[.map (some b)] 42 (0, 0))) (hm : PM w b m) (hml : m.length ≤ 1000000) :
    Calls Try.prog 23 #[.func (.func 25) #[] #[.pointer (some ⟨gc, 0, none⟩)]] w fun e w' => ∃ (v : Value) (ks : List Pc), e = .returned v ∧ ks.Perm (XM.keys m) ∧ Kd.R k38 32 w' w.heap.size (fun _ => True) v ks ∧ Below w.heap.size w w' := by
  have HA := Lib.hid (callsIn_wide.1 (append_seq Fence.wide 2 trivial trivial rfl (by decide) gc b m w hgc hm hml))
  clear hgc hm
  go_enter Try.func23, Try.ntmps23
  go_wp2_with fail
  with_reducible refine HA.out.mono ?_
  rintro e w1 ⟨v, ks, rfl, hp, hr, hb⟩
  have HB := Lib.hid hb
  have HP := Lib.hid hp
  have HR := Lib.hid (show Kd.R k38 32 w1 w.heap.size (fun _ => True) v ks from ⟨fun _ _ => trivial, ks.flatMap cellsPl2, hr, flat_reps _ _ _ _⟩)
  clear hp hr hb
  go_wp2
  go_ret
  exact ⟨v, ks, rfl, HP.out, HR.out, HB.out⟩
theorem sorted_calls (gc b : Nat) (m : Pm) (w : World) (hgc : w.heap[gc]? = some (.cells #[.map (some b)] 42 (0, 0))) (hm : PM w b m) (hml : m.length ≤ 1000000) :
    Calls Try.prog 15 #[.func (.func 25) #[] #[.pointer (some ⟨gc, 0, none⟩)], .func (.func 17) #[] #[]] w fun e w' => ∃ (v : Value) (ks : List Pc), e = .returned v ∧ ks.Perm (XM.keys m) ∧ ks.Pairwise lt ∧ Kd.R k38 32 w' w.heap.size (fun _ => True) v ks ∧ Below w.heap.size w w' := by
  have HCO := Lib.hid (collect_calls gc b m w hgc hm hml)
  have HND := Lib.hid (XM.MapIs.nodup hm)
  have HML := Lib.hid (show (XM.keys m).length ≤ 1000000 by unfold XM.keys; rw [List.length_map]; exact hml)
  clear hgc hm hml
  go_enter Try.func15, Try.ntmps15
  go_wp2_with fail
  with_reducible refine HCO.out.mono ?_
  rintro e w1 ⟨v, ks, rfl, hp, hr, hb⟩
  have HSO := Lib.hid (sort_any w.heap.size (fun _ => True) v ks w1 hr (by have := hp.length_eq; have := HML.out; omega))
  have HB := Lib.hid hb
  have HP := Lib.hid hp
  have HR := Lib.hid hr
  clear hp hr hb HCO
  go_wp2_with fail
  with_reducible refine HSO.out.mono ?_
  rintro e w2 ⟨rfl, l', h1, h2, h3, h4⟩
  have HP2 := Lib.hid (h1.trans HP.out)
  have HU := Lib.hid (strict h2 ((HP2.out.nodup_iff).2 HND.out))
  have HR2 := Lib.hid h3
  have HB2 := Lib.hid (HB.out.grown h4 HB.out.size (fun k hk => Kd.R_base HR.out k hk))
  clear h1 h2 h3 h4 HSO
  go_wp2
  go_ret
  exact ⟨v, l', rfl, HP2.out, HU.out, HR2.out, HB2.out⟩
theorem keys_calls (b : Nat) (w : World) : Calls Try.prog 16 #[.map (some b)] w fun e w' => e = .returned (.func (.func 25) #[] #[.pointer (some ⟨w.heap.size, 0, none⟩)]) ∧ w' = w.alloc (.cells #[.map (some b)] 42) := by
  go_enter Try.func16, Try.ntmps16
  go_wp2
  go_ret
  exact ⟨by simp, rfl⟩
theorem placeM_nodup (l : List Mt) : (XM.keys (placeM l)).Nodup := by
  have h1 : ∀ (m : Pm) (x : Mt), (XM.keys m).Nodup → (XM.keys (place1 m x)).Nodup := by
    intro m x hm
    unfold place1
    cases hg : XM.aget m (plc x) with
    | some v => rw [if_pos (show (some v).isSome = true from rfl)]; exact hm
    | none =>
      rw [if_neg (show ¬ (none : Option Kt).isSome = true by simp)]
      have hne : ∀ p ∈ m, p.1 ≠ plc x := fun p hp e => by
        have := XM.aget_mem hm hp
        rw [e, hg] at this
        cases this
      rw [XM.aput_new _ hne]
      unfold XM.keys at hm ⊢
      rw [List.map_append, List.nodup_append]
      refine ⟨hm, by simp, ?_⟩
      intro a ha b hb e
      obtain ⟨p, hp, rfl⟩ := List.mem_map.1 ha
      simp at hb
      exact hne p hp (e.trans hb)
  have h2 : ∀ (l : List Mt) (m : Pm), (XM.keys m).Nodup → (XM.keys (l.foldl place1 m)).Nodup := by
    intro l
    induction l with
    | nil => intro m hm; exact hm
    | cons x l ih => intro m hm; rw [List.foldl_cons]; exact ih _ (h1 m x hm)
  exact h2 l [] (by simp [XM.keys])
/-- What Diff leaves of the other's map: just what differs. -/
theorem left_mem (own other : List Mt) (p : Pc) : p ∈ XM.keys ((placeM other).filter (keepD (placeM own))) ↔ dif own other p := by
  unfold XM.keys
  rw [List.mem_map]
  constructor
  · rintro ⟨e, he, rfl⟩
    obtain ⟨h1, h2⟩ := List.mem_filter.1 he
    have h3 := XM.aget_mem (placeM_nodup other) h1
    rw [aget_place] at h3
    unfold keepD at h2
    rw [decide_eq_true_iff, aget_place] at h2
    refine ⟨fun h4 => ?_, fun h4 => h2 (h4.trans h3)⟩
    rw [h4] at h3
    cases h3
  · rintro ⟨h1, h2⟩
    cases hf : first other p with
    | none => exact absurd hf h1
    | some x =>
      have h3 : XM.aget (placeM other) p = some (kpt x) := by rw [aget_place, hf]; rfl
      refine ⟨(p, kpt x), List.mem_filter.2 ⟨XM.aget_some h3, ?_⟩, rfl⟩
      unfold keepD
      rw [decide_eq_true_iff, aget_place]
      intro h4
      exact h2 (by rw [hf]; exact h4)
set_option maxHeartbeats 4000000 in
set_option maxRecDepth 100000 in
theorem diff_calls (w : World) (A : Option Addr) (c : Nat) (own : List Mt) (hC : Kd.C k56 w A own.length own) (hok : OkL own) (hn : own.length ≤ 1000000) (A' : Option Addr) (c' : Nat) (other : List Mt) (hC' : Kd.C k56 w A' other.length other) (hok' : OkL other) (hn' : other.length ≤ 1000000) :
    Calls Try.prog 6 #[.slice A own.length c, .slice A' other.length c'] w fun e w' => ∃ (v : Value) (D : List Pc), e = .returned v ∧ IsD own other D ∧ Kd.R k38 32 w' w.heap.size (fun _ => True) v D ∧ Below w.heap.size w w' := by
  have HP1 := Lib.hid (placed_calls w A c own hC hok hn)
  have HP2 := Lib.hid (fun W (hW : Below w.heap.size w W) => placed_calls W A' c' other (Kd.C_below hC' hW) hok' hn')
  have HN := Lib.hid hn'
  clear hC hok hn hC' hok' hn'
  go_enter Try.func6, Try.ntmps6
  go_wp2_with fail
  with_reducible refine HP1.out.mono ?_
  rintro e w1 ⟨b1, rfl, hm1, hge1, hb1⟩
  have HM1 := Lib.hid hm1
  have HB1 := Lib.hid hb1
  have HG1 := Lib.hid hge1
  clear hm1 hb1 hge1 HP1
  go_wp2_with fail
  with_reducible refine (HP2.out w1 HB1.out).mono ?_
  rintro e w2 ⟨b2, rfl, hm2, hge2, hb2⟩
  have HM2 := Lib.hid hm2
  have HB2 := Lib.hid (below_then HB1.out HB1.out.size hb2)
  have HG2 := Lib.hid hge2
  have HM12 := Lib.hid (XM.MapIs.below HM1.out hb2)
  have HNE := Lib.hid (show b2 ≠ b1 from fun e => by have h1 := XM.MapIs.lt HM1.out; have h2 := HG2.out; omega)
  clear hm2 hb2 hge2 HP2
  have HA3 := Lib.hid (below_alloc (Below.refl w2.heap.size w2) (.cells #[.map (some b1)] 42))
  have HC3 := Lib.hid (blk_new w2 (.cells #[.map (some b1)] 42))
  have HD3 := Lib.hid (delf_calls (w2.alloc (.cells #[.map (some b1)] 42)) b2 (placeM other) (XM.MapIs.below HM2.out HA3.out) w2.heap.size b1 (placeM own) HC3.out (XM.MapIs.below HM12.out HA3.out) HNE.out)
  go_wp2_with fail
  with_reducible refine HD3.out.mono ?_
  rintro e w4 ⟨rfl, hm4, hg4⟩
  have HM4 := Lib.hid hm4
  have HB3 := Lib.hid (below_then HB2.out HB2.out.size HA3.out)
  have HB4 := Lib.hid (HB3.out.grown hg4 HB3.out.size (fun k hk => by cases hk; exact Nat.le_trans HB1.out.size HG2.out))
  clear hm4 hg4 HD3
  go_wp2_with fail
  with_reducible refine (keys_calls b2 w4).mono ?_
  rintro e w5 ⟨rfl, rfl⟩
  have HA5 := Lib.hid (below_alloc (Below.refl w4.heap.size w4) (.cells #[.map (some b2)] 42))
  have HS := Lib.hid (sorted_calls w4.heap.size b2 ((placeM other).filter (keepD (placeM own))) (w4.alloc (.cells #[.map (some b2)] 42)) (blk_new w4 _) (XM.MapIs.below HM4.out HA5.out) (Nat.le_trans (List.length_filter_le _ _) (Nat.le_trans (placeM_len other) HN.out)))
  go_wp2_with fail
  with_reducible refine HS.out.mono ?_
  rintro e w6 ⟨v, ks, rfl, hp, hu, hr, hb6⟩
  have HB5 := Lib.hid (below_then HB4.out HB4.out.size HA5.out)
  have HR6 := Lib.hid (Kd.R_lower hr HB5.out.size)
  have HB6 := Lib.hid (below_then HB5.out HB5.out.size hb6)
  have HD := Lib.hid (show IsD own other ks from ⟨hu, fun p => (hp.mem_iff).trans (left_mem own other p)⟩)
  clear hp hu hr hb6 HS
  go_wp2
  go_ret
  exact ⟨v, ks, rfl, HD.out, HR6.out, HB6.out⟩
end Rp
end Go.Proofs.Ytcdpcgcfonjnfaa
