/- maps.Equal at maps of places. -/
import Derived.Test.YtcdpcgcfonjnfaaRepDiff
namespace Go.Proofs.Ytcdpcgcfonjnfaa
set_option linter.unusedVariables false
set_option linter.unusedSimpArgs false
open Go.RowKit Go.Proofs.YtcdpcgcfonjnfaaW.PrintWords Go.Proofs.YtcdpcgcfonjnfaaW.PrintLast Go.Proofs.YtcdpcgcfonjnfaaW.PrintMore Go.Proofs.Ytcdpcgcfonjnfaa.QT
namespace Rp
def eqM (m1 m2 : Pm) : Bool := decide (m1.length = m2.length) && m1.all (fun e => decide (XM.aget m2 e.1 = some e.2))
set_option maxHeartbeats 4000000 in
set_option maxRecDepth 100000 in
theorem equal_calls (w : World) (b1 b2 : Nat) (m1 m2 : Pm) (h1 : PM w b1 m1) (h2 : PM w b2 m2) :
    Calls Try.prog 22 #[.map (some b1), .map (some b2)] w fun e w' => e = .returned (.bool (eqM m1 m2)) ∧ Below w.heap.size w w' := by
  have HM1 := Lib.hid h1
  have HM2 := Lib.hid h2
  have H0 := Lib.hid (Below.refl w.heap.size w)
  clear h1 h2
  by_cases hlen : m1.length = m2.length
  · have d0 : ((m1.length : Int) != (m2.length : Int)) = false := by rw [hlen]; simp
    have HE0 := Lib.hid hlen
    have hlen2 : (m1.length : Int) = (m2.length : Int) := by rw [hlen]
    clear hlen
    go_enter Try.func22, Try.ntmps22
    go_wp2_with (first
      | (at_len; refine XM.wp_len _ rfl _ 42 rfl 32 47 Try.underlying42 b1 m1 rfl HM1.out ?_)
      | (at_len; refine XM.wp_len _ rfl _ 42 rfl 32 47 Try.underlying42 b2 m2 rfl HM2.out ?_)
      | (at_range; refine XM.wp_range _ rfl _ 42 rfl 32 47 Try.underlying42 b1 m1 rfl HM1.out ?_; intro w0 hrg0 hg0 hs0; have HR0 := Lib.hid (And.intro hrg0 (And.intro hg0 hs0)); clear hrg0 hg0 hs0))
    go_frame
    go_loopg [5, 6, 7, 8] m1.length (fun gn v5 v6 v7 v8 wr => ∃ (left : Pm), Aside0 (XM.RangeIs Try.prog 32 ekP evK wr b1 w.heap.size m1 left) ∧ Aside0 (gn = left.length) ∧ Aside0 (∀ e ∈ m1, e ∈ left ∨ XM.aget m2 e.1 = some e.2) ∧ Aside0 (Below w.heap.size w wr))
    case atStart => exact ⟨m1, ⟨HR0.out.1⟩, ⟨rfl⟩, ⟨fun e he => .inl he⟩, ⟨Below.grown H0.out HR0.out.2.1 (Nat.le_refl _) (fun k hk => by cases hk)⟩⟩
    case round =>
      clear HR0
      obtain ⟨left, HS, HN, HE, HB⟩ := hrel
      go_wp2_with (at_next; refine XM.wp_next _ rfl _ rfl 32 b1 w.heap.size m1 left rfl HS.out ?_ ?_)
      · intro hleft
        have HX := Lib.hid (show eqM m1 m2 = true by
          unfold eqM
          rw [decide_eq_true HE0.out, Bool.true_and, List.all_eq_true]
          intro e he
          rcases HE.out e he with h | h
          · rw [hleft] at h; cases h
          · exact decide_eq_true h)
        clear hleft
        go_wp2
        go_ret
        rw [HX.out]
        exact ⟨rfl, HB.out⟩
      · intro l1 l2 x y w1 hl hrg hg1 hs1 hen
        have HL := Aside0.mk hl
        have HS1 := Aside0.mk hrg
        have HB1 := Lib.hid (HB.out.grown hg1 HB.out.size (fun k hk => by cases hk; exact Nat.le_refl _))
        have hxm : (x, y) ∈ m1 := HS.out.sub.subset (show (x, y) ∈ left by rw [hl]; simp)
        have HXM := Lib.hid hxm
        have HKX := Lib.hid (XM.MapIs.isK HM1.out _ hxm)
        have HND := Lib.hid (XM.MapIs.nodup HM1.out)
        clear hl hrg hg1 hs1 hxm
        simp only [ekP, evK] at hen ⊢
        have HA := Lib.hid (below_alloc (below_alloc (Below.refl w1.heap.size w1) (.cells #[.string x.f0, .int .i64 x.f1] 32)) (.cells #[.int .i64 y.count, .int .u32 y.sum] 47))
        have HMA := Lib.hid (XM.MapIs.below (XM.MapIs.below HM2.out HB1.out) HA.out)
        cases hg : XM.aget m2 x with
        | none =>
          have HG := Lib.hid hg
          have HX := Lib.hid (show eqM m1 m2 = false by
            rw [← Bool.not_eq_true]
            intro h
            unfold eqM at h
            rw [Bool.and_eq_true, List.all_eq_true] at h
            have := of_decide_eq_true (h.2 _ HXM.out)
            rw [hg] at this
            cases this)
          have HA3 := Lib.hid (below_alloc HA.out (.cells #[.int .i64 0, .int .u32 0] 47))
          clear hg
          go_wp2_with (at_lookup; go_loud (refine XM.wp_look_none_ok _ rfl _ _ 42 rfl 32 47 encP Try.underlying42 (.agg #[.int .i64 0, .int .u32 0]) (zK _) b2 m2 rfl HMA.out x rfl HKX.out HG.out ?_))
          go_ret
          rw [HX.out]
          exact ⟨rfl, below_then HB1.out HB1.out.size HA3.out⟩
        | some v =>
          have HG := Lib.hid hg
          have HA3 := Lib.hid (below_alloc HA.out (.cells #[.int .i64 v.count, .int .u32 v.sum] 47))
          by_cases hv : v = y
          · subst hv
            have HGX := Lib.hid hg
            clear hg
            go_wp2_with (at_lookup; go_loud (refine XM.wp_look_some_ok _ rfl _ _ 42 rfl 32 47 encP Try.underlying42 b2 m2 rfl HMA.out x rfl HKX.out v HG.out ?_); simp only [evK])
            go_roundg (l1 ++ l2).length
            case measure => rw [HN.out, HL.out]; simp
            case rel =>
              refine ⟨l1 ++ l2, ⟨HS1.out.below HA3.out⟩, ⟨rfl⟩, ⟨fun e he => ?_⟩, ⟨below_then HB1.out HB1.out.size HA3.out⟩⟩
              rcases HE.out e he with h | h
              · rw [HL.out] at h
                rcases List.mem_append.1 h with h | h
                · exact .inl (List.mem_append_left _ h)
                · rcases List.mem_cons.1 h with h | h
                  · rw [h]; exact .inr HGX.out
                  · exact .inl (List.mem_append_right _ h)
              · exact .inr h
          · have HX := Lib.hid (show eqM m1 m2 = false by
              rw [← Bool.not_eq_true]
              intro h
              unfold eqM at h
              rw [Bool.and_eq_true, List.all_eq_true] at h
              have := of_decide_eq_true (h.2 _ HXM.out)
              rw [hg] at this
              exact hv (Option.some.inj this))
            obtain ⟨vc, vs⟩ := v
            obtain ⟨yc, ys⟩ := y
            by_cases h1 : vc = yc
            · have h2 : ¬ vs = ys := fun e => hv (by rw [h1, e])
              have h3 : ¬ ys = vs := fun e => h2 e.symm
              subst h1
              clear hg hv
              go_wp2_with (at_lookup; go_loud (refine XM.wp_look_some_ok _ rfl _ _ 42 rfl 32 47 encP Try.underlying42 b2 m2 rfl HMA.out x rfl HKX.out ⟨vc, vs⟩ HG.out ?_); simp only [evK])
              go_ret
              rw [HX.out]
              exact ⟨by first | rfl | (simp; done) | (simp [h2, h3]; done), below_then HB1.out HB1.out.size HA3.out⟩
            · have h3 : ¬ yc = vc := fun e => h1 e.symm
              clear hg hv
              go_wp2_with (at_lookup; go_loud (refine XM.wp_look_some_ok _ rfl _ _ 42 rfl 32 47 encP Try.underlying42 b2 m2 rfl HMA.out x rfl HKX.out ⟨vc, vs⟩ HG.out ?_); simp only [evK])
              go_ret
              rw [HX.out]
              exact ⟨by first | rfl | (simp; done) | (simp [h1, h3]; done), below_then HB1.out HB1.out.size HA3.out⟩
  · have d0 : ((m1.length : Int) != (m2.length : Int)) = true := by rw [bne_iff_ne]; omega
    have HX := Lib.hid (show eqM m1 m2 = false by unfold eqM; rw [decide_eq_false hlen, Bool.false_and])
    have hlen2 : ¬ (m1.length : Int) = (m2.length : Int) := by omega
    clear hlen
    go_enter Try.func22, Try.ntmps22
    go_wp2_with (first
      | (at_len; refine XM.wp_len _ rfl _ 42 rfl 32 47 Try.underlying42 b1 m1 rfl HM1.out ?_)
      | (at_len; refine XM.wp_len _ rfl _ 42 rfl 32 47 Try.underlying42 b2 m2 rfl HM2.out ?_))
    go_ret
    rw [HX.out]
    exact ⟨rfl, H0.out⟩
end Rp
end Go.Proofs.Ytcdpcgcfonjnfaa
