/- repair.Diff's bound function; maps.DeleteFunc with it. -/
import Derived.Test.YtcdpcgcfonjnfaaRepMaps
namespace Go.Proofs.Ytcdpcgcfonjnfaa
set_option linter.unusedVariables false
set_option linter.unusedSimpArgs false
open Go.RowKit Go.Proofs.YtcdpcgcfonjnfaaW.PrintWords Go.Proofs.YtcdpcgcfonjnfaaW.PrintLast Go.Proofs.YtcdpcgcfonjnfaaW.PrintMore Go.Proofs.Ytcdpcgcfonjnfaa.QT
namespace Rp
/-- Does Diff keep an entry? -/
def keepD (mine : Pm) (e : Pc × Kt) : Bool := decide (XM.aget mine e.1 ≠ some e.2)
theorem sublist_ext {γ : Type} {m l1 l2 : List γ} (hn : m.Nodup) (h1 : l1.Sublist m) (h2 : l2.Sublist m) (h : ∀ x, x ∈ l1 ↔ x ∈ l2) : l1 = l2 := by
  classical
  rw [XM.sublist_filter h1 hn, XM.sublist_filter h2 hn]
  exact List.filter_congr (fun x _ => by simp [h x])
set_option maxHeartbeats 2000000 in
set_option maxRecDepth 100000 in
theorem diff1_calls (W : World) (x : Pc) (y : Kt) (gc bm : Nat) (mine : Pm) (hb : W.heap[gc]? = some (.cells #[.map (some bm)] 42 (0, 0))) (hm : PM W bm mine) (hk : XM.IsK Try.prog 32 ekP x) :
    Calls Try.prog 14 #[.agg #[.string x.f0, .int .i64 x.f1], .agg #[.int .i64 y.count, .int .u32 y.sum], .pointer (some ⟨gc, 0, none⟩)] W fun e w' => e = .returned (.bool (!keepD mine (x, y))) ∧ Below W.heap.size W w' := by
  have c0 : W.cell? ⟨gc, 0, none⟩ = some (.map (some bm)) := (blk_cell hb 0).trans rfl
  have l0 := blk_lt hb
  have HB := Lib.hid (below_alloc (below_alloc (Below.refl W.heap.size W) (.cells #[.string x.f0, .int .i64 x.f1] 32)) (.cells #[.int .i64 y.count, .int .u32 y.sum] 47))
  have HM := Lib.hid (XM.MapIs.below hm HB.out)
  have HK := Lib.hid hk
  clear hb hm hk
  cases hg : XM.aget mine x with
  | none =>
    have HG := Lib.hid hg
    have HE := Lib.hid (show (!keepD mine (x, y)) = false by unfold keepD; simp [hg])
    have HB3 := Lib.hid (below_alloc HB.out (.cells #[.int .i64 0, .int .u32 0] 47))
    clear hg
    go_enter Try.func14, Try.ntmps14
    go_wp2_with (at_lookup; go_loud (refine XM.wp_look_none_ok _ rfl _ _ 42 rfl 32 47 encP Try.underlying42 (.agg #[.int .i64 0, .int .u32 0]) (zK _) bm mine rfl HM.out x rfl HK.out HG.out ?_))
    go_ret
    rw [HE.out]
    exact ⟨rfl, HB3.out⟩
  | some v =>
    have HG := Lib.hid hg
    have HB3 := Lib.hid (below_alloc HB.out (.cells #[.int .i64 v.count, .int .u32 v.sum] 47))
    by_cases hv : v = y
    · have HE := Lib.hid (show (!keepD mine (x, y)) = true by unfold keepD; simp [hg, hv])
      subst hv
      clear hg
      go_enter Try.func14, Try.ntmps14
      go_wp2_with (at_lookup; go_loud (refine XM.wp_look_some_ok _ rfl _ _ 42 rfl 32 47 encP Try.underlying42 bm mine rfl HM.out x rfl HK.out v HG.out ?_); simp only [evK])
      go_ret
      rw [HE.out]
      exact ⟨by first | rfl | simp, HB3.out⟩
    · have HE := Lib.hid (show (!keepD mine (x, y)) = false by unfold keepD; simp [hg, hv])
      obtain ⟨vc, vs⟩ := v
      obtain ⟨yc, ys⟩ := y
      by_cases h1 : vc = yc
      · have h2 : ¬ vs = ys := fun e => hv (by rw [h1, e])
        subst h1
        clear hg hv
        go_enter Try.func14, Try.ntmps14
        go_wp2_with (at_lookup; go_loud (refine XM.wp_look_some_ok _ rfl _ _ 42 rfl 32 47 encP Try.underlying42 bm mine rfl HM.out x rfl HK.out ⟨vc, vs⟩ HG.out ?_); simp only [evK])
        go_ret
        rw [HE.out]
        exact ⟨by first | rfl | (simp; done) | (simp [h2]; done), HB3.out⟩
      · clear hg hv
        go_enter Try.func14, Try.ntmps14
        go_wp2_with (at_lookup; go_loud (refine XM.wp_look_some_ok _ rfl _ _ 42 rfl 32 47 encP Try.underlying42 bm mine rfl HM.out x rfl HK.out ⟨vc, vs⟩ HG.out ?_); simp only [evK])
        go_ret
        rw [HE.out]
        exact ⟨by first | rfl | (simp; done) | (simp [h1]; done), HB3.out⟩
theorem key_inj {m : Pm} (hn : (XM.keys m).Nodup) {a c : Pc × Kt} (ha : a ∈ m) (hc : c ∈ m) (h : a.1 = c.1) : a = c := by
  have h1 := XM.aget_mem hn ha
  have h2 := XM.aget_mem hn hc
  rw [h, h2] at h1
  exact Prod.ext h (Option.some.inj h1).symm
set_option maxHeartbeats 1000000 in
set_option maxRecDepth 100000 in
theorem delf_calls (w : World) (b : Nat) (m : Pm) (hm : PM w b m) (gc bm : Nat) (mine : Pm) (hb : w.heap[gc]? = some (.cells #[.map (some bm)] 42 (0, 0))) (hv : PM w bm mine) (hbm : b ≠ bm) :
    Calls Try.prog 13 #[.map (some b), .func (.func 14) #[] #[.pointer (some ⟨gc, 0, none⟩)]] w fun e w' => e = .returned (.tuple #[]) ∧ PM w' b (m.filter (keepD mine)) ∧ w.grownBy w' (some b) := by
  have HM := Lib.hid hm
  have HB := Lib.hid hb
  have HV := Lib.hid hv
  have HNB := Lib.hid (show b ≠ gc ∧ b ≠ bm ∧ gc < w.heap.size ∧ bm < w.heap.size ∧ b < w.heap.size from ⟨XM.MapIs.noCells hm hb, hbm, blk_lt hb, XM.MapIs.lt hv, XM.MapIs.lt hm⟩)
  clear hm hb hv hbm
  go_enter Try.func13, Try.ntmps13
  go_wp2_with (at_range; refine XM.wp_range _ rfl _ 42 rfl 32 47 Try.underlying42 b m rfl HM.out ?_; intro w0 hrg0 hg0 hs0; have HR0 := Lib.hid (And.intro hrg0 (And.intro hg0 hs0)); clear hrg0 hg0 hs0)
  go_frame
  go_loopg [] m.length (fun gn wr => ∃ (m2 left : Pm), Aside0 (XM.RangeIs Try.prog 32 ekP evK wr b w.heap.size m2 left) ∧ Aside0 (gn = left.length) ∧ Aside0 (m2.Sublist m ∧ ∀ e, e ∈ m2 ↔ e ∈ m ∧ (e ∈ left ∨ keepD mine e = true)) ∧ Aside0 (w.grownBy wr (some b) ∧ w.heap.size < wr.heap.size))
  case atStart => exact ⟨m, m, ⟨HR0.out.1⟩, ⟨rfl⟩, ⟨List.Sublist.refl _, fun e => ⟨fun h => ⟨h, .inl h⟩, fun h => h.1⟩⟩, ⟨HR0.out.2.1.but _, by have := HR0.out.2.2; omega⟩⟩
  case round =>
    clear HR0
    obtain ⟨m2, left, HS, HN, HE, HG⟩ := hrel
    go_wp2_with (at_next; refine XM.wp_next _ rfl _ rfl 32 b w.heap.size m2 left rfl HS.out ?_ ?_)
    · intro hleft
      have HL := Aside0.mk hleft
      clear hleft
      go_wp2
      go_end0
      refine ⟨rfl, ?_, HG.out.1⟩
      have hnd : m.Nodup := XM.nodup_of_map Prod.fst (XM.MapIs.nodup HM.out)
      have e1 : m.filter (keepD mine) = m2 := sublist_ext hnd List.filter_sublist HE.out.1 (fun x => by rw [HE.out.2 x, HL.out]; simp)
      rw [e1]
      exact HS.out.map
    · intro l1 l2 x y w1 hl hrg hg1 hs1 hen
      have HL := Aside0.mk hl
      have HS1 := Aside0.mk hrg
      have hgw := HG.out.1.andThen hg1 (fun j hj => by cases hj; exact .inl (Nat.le_refl _))
      have HW1 := Aside0.mk (And.intro hgw (show w.heap.size < w1.heap.size by have := HG.out.2; omega))
      clear hl hrg hg1 hs1 hgw
      simp only [ekP, evK] at hen ⊢
      have hb1 := blk_grown HB.out HW1.out.1 (fun e => HNB.out.1 (by cases e; rfl))
      have hv1 := XM.MapIs.kept HV.out HW1.out.1 (fun e => HNB.out.2.1 (by cases e; rfl))
      have hbb : Below w1.heap.size w1 ((w1.alloc (.cells #[.string x.f0, .int .i64 x.f1] 32)).alloc (.cells #[.int .i64 y.count, .int .u32 y.sum] 47)) := below_alloc (below_alloc (Below.refl _ _) _) _
      have HKX := Lib.hid (XM.MapIs.isK HM.out _ ((HE.out.2 (x, y)).1 (HS.out.sub.subset (show (x, y) ∈ left by rw [HL.out]; simp))).1)
      have HC := Lib.hid (diff1_calls _ x y gc bm mine (blk_below hb1 hbb) (XM.MapIs.below hv1 hbb) HKX.out)
      have HBB := Lib.hid hbb
      clear hb1 hv1 hbb
      go_wp2_with fail
      with_reducible refine HC.out.mono ?_
      rintro e w2 ⟨rfl, hB2⟩
      have hb2 : Below w1.heap.size w1 w2 := below_then HBB.out HBB.out.size hB2
      have HG2 := Aside0.mk (And.intro (HW1.out.1.andThen (grown_of_below hb2 none) (by simp)) (show w.heap.size < w2.heap.size by have := HW1.out.2; have := hb2.size; omega))
      have HS2 := Aside0.mk (HS1.out.below hb2)
      have k0 : w2.cell? ⟨w1.heap.size, 0, none⟩ = some (.string x.f0) := (blk_cell (blk_below (blk_alloc (blk_new w1 _) _) hB2) 0).trans rfl
      have k1 : w2.cell? ⟨w1.heap.size, 1, none⟩ = some (.int .i64 x.f1) := (blk_cell (blk_below (blk_alloc (blk_new w1 _) _) hB2) 1).trans rfl
      have hsub := HS2.out.sub
      have hnd2 := HS2.out.map.nodup
      have hxm : (x, y) ∈ m2 := by have := HS.out.sub.subset (show (x, y) ∈ left by rw [HL.out]; simp); exact this
      have hno : ∀ p ∈ l1 ++ l2, p.1 ≠ x := by
        intro p hp he
        have hs : left.Sublist m2 := HS.out.sub
        have hn : (XM.keys left).Nodup := hnd2.sublist (hs.map _)
        rw [HL.out] at hn
        unfold XM.keys at hn
        rw [List.map_append, List.map_cons, List.nodup_append] at hn
        obtain ⟨_, n2, n3⟩ := hn
        rcases List.mem_append.1 hp with h | h
        · exact n3 p.1 (List.mem_map.2 ⟨p, h, rfl⟩) x (by simp) he
        · exact (List.nodup_cons.1 n2).1 (by rw [← he]; exact List.mem_map.2 ⟨p, h, rfl⟩)
      have HF := Lib.hid (And.intro hxm hno)
      have HK := Lib.hid (XM.MapIs.isK HM.out _ ((HE.out.2 (x, y)).1 hxm).1)
      clear hb2 hB2 HBB HC hsub hnd2 hxm hno hen
      obtain ⟨kb, hkb⟩ : ∃ r, keepD mine (x, y) = r := ⟨_, rfl⟩
      have HKB := Lib.hid hkb
      rw [hkb]
      clear hkb
      cases kb with
      | true =>
        clear k0 k1
        go_wp2_with fail
        go_roundg (l1 ++ l2).length
        case measure => rw [HN.out, HL.out]; simp
        case rel =>
          refine ⟨m2, l1 ++ l2, HS2, ⟨rfl⟩, ⟨HE.out.1, fun e => ?_⟩, HG2⟩
          rw [HE.out.2 e, HL.out]
          constructor
          · rintro ⟨h1, h2⟩
            refine ⟨h1, ?_⟩
            rcases h2 with h2 | h2
            · rcases List.mem_append.1 h2 with h2 | h2
              · exact .inl (List.mem_append_left _ h2)
              · rcases List.mem_cons.1 h2 with rfl | h2
                · exact .inr HKB.out
                · exact .inl (List.mem_append_right _ h2)
            · exact .inr h2
          · rintro ⟨h1, h2⟩
            refine ⟨h1, ?_⟩
            rcases h2 with h2 | h2
            · rcases List.mem_append.1 h2 with h2 | h2
              · exact .inl (List.mem_append_left _ h2)
              · exact .inl (List.mem_append_right _ (List.mem_cons_of_mem _ h2))
            · exact .inr h2
      | false =>
        go_wp2_with (at_delete; refine XM.wp_delete_ranges _ rfl _ _ 42 32 rfl 47 encP Try.underlying42 b w.heap.size m2 (l1 ++ l2) rfl HS2.out x rfl HK.out HF.out.2 ?_; intro w3 hS3 hg3 hs3; have HS3 := Aside0.mk hS3; have HG3 := Aside0.mk (And.intro hg3 hs3); clear hS3 hg3 hs3)
        go_roundg (l1 ++ l2).length
        case measure => rw [HN.out, HL.out]; simp
        case rel =>
          refine ⟨XM.adel m2 x, l1 ++ l2, HS3, ⟨rfl⟩, ⟨(List.filter_sublist).trans HE.out.1, fun e => ?_⟩, ⟨HG2.out.1.andThen HG3.out.1 (fun j hj => by cases hj; exact .inr rfl), by have := HG2.out.2; have := HG3.out.2; omega⟩⟩
          have hnm : (XM.keys m).Nodup := (XM.MapIs.nodup HM.out)
          have hxm' := ((HE.out.2 (x, y)).1 HF.out.1).1
          unfold XM.adel
          rw [List.mem_filter, HE.out.2 e, HL.out]
          constructor
          · rintro ⟨⟨h1, h2⟩, h3⟩
            refine ⟨h1, ?_⟩
            have h3' : e.1 ≠ x := by simpa using h3
            rcases h2 with h2 | h2
            · rcases List.mem_append.1 h2 with h2 | h2
              · exact .inl (List.mem_append_left _ h2)
              · rcases List.mem_cons.1 h2 with rfl | h2
                · exact absurd rfl h3'
                · exact .inl (List.mem_append_right _ h2)
            · exact .inr h2
          · rintro ⟨h1, h2⟩
            rcases h2 with h2 | h2
            · have h4 := HF.out.2 e h2
              refine ⟨⟨h1, ?_⟩, by simpa using h4⟩
              rcases List.mem_append.1 h2 with h2 | h2
              · exact .inl (List.mem_append_left _ h2)
              · exact .inl (List.mem_append_right _ (List.mem_cons_of_mem _ h2))
            · refine ⟨⟨h1, .inr h2⟩, ?_⟩
              have : e.1 ≠ x := fun he => by
                have := key_inj hnm h1 hxm' he
                rw [this, HKB.out] at h2
                cases h2
              simpa using this
end Rp
end Go.Proofs.Ytcdpcgcfonjnfaa
