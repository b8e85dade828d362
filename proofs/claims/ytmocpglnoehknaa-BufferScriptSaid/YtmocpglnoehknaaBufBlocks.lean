/- buffer.Blocks: the blocks of a Buffer's points, rising, each once. -/
import Derived.Test.YtmocpglnoehknaaBuf1
import Derived.Test.YtmocpglnoehknaaIterI
namespace Go.Proofs.Ytmocpglnoehknaa
set_option linter.unusedVariables false
set_option linter.unusedSimpArgs false
open Go.RowKit Go.Proofs.YtmocpglnoehknaaW.PrintWords Go.Proofs.YtmocpglnoehknaaW.PrintLast Go.Proofs.YtmocpglnoehknaaW.PrintMore Go.Proofs.Ytmocpglnoehknaa.QT
namespace Buf
open KeysI (Im IM ekI evU encI isKI)
theorem aputI_keys {gm : Im} {n : Int} {k : Int} : k ∈ (XM.aput gm n ()).map (·.1) ↔ k = n ∨ k ∈ gm.map (·.1) := by
  induction gm with
  | nil => simp [XM.aput]
  | cons q r ih =>
    rw [XM.aput]
    by_cases hq : q.1 = n
    · rw [if_pos hq, List.map_cons, List.map_cons, List.mem_cons, List.mem_cons, hq]
      constructor
      · rintro (h | h)
        · exact .inl h
        · exact .inr (.inr h)
      · rintro (h | h | h)
        · exact .inl h
        · exact .inl h
        · exact .inr h
    · rw [if_neg hq, List.map_cons, List.mem_cons, ih, List.map_cons, List.mem_cons]
      constructor
      · rintro (h | h | h)
        · exact .inr (.inl h)
        · exact .inl h
        · exact .inr (.inr h)
      · rintro (h | h | h)
        · exact .inr (.inl h)
        · exact .inl h
        · exact .inr (.inr h)
set_option maxHeartbeats 1000000 in
set_option maxRecDepth 100000 in
theorem blocks_calls (w : World) (g b : Nat) (m : Mp) (ver : Int) (h : Is w g b m ver) (hm : m.length ≤ 1000000) (hbw : ∀ e ∈ m, (Lit.int .i64 e.1.blk).wf = true) :
    Calls Try.prog 38 #[.pointer (some ⟨g, 0, none⟩)] w fun e w' => ∃ (v : Value) (ns : List Int), e = .returned v ∧ ns.Pairwise (· ≤ ·) ∧ ns.Nodup ∧ (∀ n, n ∈ ns ↔ ∃ e ∈ m, e.1.blk = n) ∧ Kd.R (Kd.int .i64) 3 w' w.heap.size (fun _ => True) v ns ∧ Below w.heap.size w w' := by
  have HI := Lib.hid h
  have HM := Lib.hid hm
  have HBW := Lib.hid hbw
  have hmm := @run_makeMap Try.prog
  have c0 : (w.alloc (.map #[] 0)).cell? ⟨g, 0, none⟩ = some (.map (some b)) := (blk_cell (blk_alloc h.1 _) 0).trans rfl
  clear h hm hbw
  go_enter Try.func38, Try.ntmps38
  go_wp2_with (at_range; refine XM.wp_range _ rfl _ 59 rfl 63 65 Try.underlying59 b m rfl (HI.out.below (below_alloc (Below.refl _ _) _)).2 ?_; intro w0 hrg0 hg0 hs0; have HR0 := Lib.hid (And.intro hrg0 (And.intro hg0 hs0)); clear hrg0 hg0 hs0)
  go_frame
  have HB0 := Aside0.mk (show Below w.heap.size w w0 from (below_alloc (Below.refl _ _) _).grown HR0.out.2.1 (by simp) (by simp))
  obtain ⟨mb, hmb⟩ : ∃ mb, mb = w.heap.size := ⟨_, rfl⟩
  have hGM0 : IM (w.alloc (.map #[] 0)) w.heap.size [] := XM.MapIs.made _ _ _ _ _
  have HG0 := Aside0.mk (show IM w0 mb [] by rw [hmb]; exact XM.MapIs.kept hGM0 HR0.out.2.1 (by simp))
  have HS0 := Aside0.mk HR0.out.1
  obtain ⟨r, hr⟩ : ∃ r, r = (w.alloc (.map #[] 0)).heap.size := ⟨_, rfl⟩
  have HRR := Aside0.mk (show r = w.heap.size + 1 ∧ mb = w.heap.size ∧ g < w.heap.size ∧ b < w.heap.size by have := HI.out.lt; simp [hr, hmb]; omega)
  rw [← hmb]
  rw [← hr] at HS0 ⊢
  clear hr hmb HR0 hGM0
  go_loopg [] m.length (fun gn wr => ∃ (left done : Mp) (gm : Im), Aside0 (XM.RangeIs Try.prog 63 ekP evH wr b r m left) ∧ Aside0 ((done ++ left).Perm m) ∧ Aside0 (gn = left.length) ∧ Aside0 (IM wr mb gm) ∧ Aside0 (∀ n, n ∈ gm.map (·.1) ↔ ∃ e ∈ done, e.1.blk = n) ∧ Aside0 (gm.length ≤ done.length) ∧ Aside0 (Below w.heap.size w wr))
  case atStart => exact ⟨m, [], [], HS0, ⟨List.Perm.refl _⟩, ⟨rfl⟩, HG0, ⟨by simp⟩, ⟨by simp⟩, HB0⟩
  case round =>
    obtain ⟨left, done, gm, HS, HP, HN, HG, HK, HL, HB⟩ := hrel
    clear HS0 HG0 HB0
    go_wp2_with (at_next; refine XM.wp_next _ rfl _ rfl 63 b r m left rfl HS.out ?_ ?_)
    · intro hleft
      have hPm : done.Perm m := by have := HP.out; rwa [hleft, List.append_nil] at this
      have hgl : gm.length ≤ 1000000 := by have := HL.out; have := hPm.length_eq; have := HM.out; omega
      have HPm := Lib.hid hPm
      have HKY := Lib.hid (callsIn_wide.1 (Try.maps_KeysI (some mb) wr))
      have HK2 := Lib.hid (KeysI.keys_calls wr mb gm HG.out hgl)
      have HND := Lib.hid (XM.MapIs.nodup HG.out)
      clear hleft HN hPm hgl HP HL HS
      go_wp2_with fail
      with_reducible refine HKY.out.mono ?_
      rintro e W1 ⟨rfl, rfl⟩
      go_wp2_with fail
      with_reducible refine HK2.out.mono ?_
      rintro e W2 ⟨v41, ns, rfl, hperm, hsort, hRn, hB2⟩
      have HE := Lib.hid (And.intro hperm (And.intro hsort (And.intro hRn hB2)))
      clear hperm hsort hRn hB2
      go_wp2_with fail
      go_ret
      obtain ⟨hperm, hsort, hRn, hB2⟩ := HE.out
      refine ⟨_, ns, rfl, hsort, hperm.nodup_iff.2 HND.out, fun n => ?_, Kd.R_lower hRn HB.out.size, below_then HB.out HB.out.size hB2⟩
      rw [hperm.mem_iff, HK.out]
      exact ⟨fun ⟨e, he, h⟩ => ⟨e, HPm.out.mem_iff.1 he, h⟩, fun ⟨e, he, h⟩ => ⟨e, HPm.out.mem_iff.2 he, h⟩⟩
    · intro l1 l2 x y w1 hl hrg hg1 hs1 hen
      have HS1 := Aside0.mk hrg
      have hdl : done.length + left.length = m.length := by have := HP.out.length_eq; rwa [List.length_append] at this
      have hgn : (l1 ++ l2).length < gk := by rw [HN.out, hl]; simp
      have hPM : (done ++ [(x, y)] ++ (l1 ++ l2)).Perm m := by
        refine List.Perm.trans ?_ HP.out
        rw [hl, List.append_assoc]
        exact List.Perm.append_left _ (show ((x, y) :: (l1 ++ l2)).Perm (l1 ++ (x, y) :: l2) from List.perm_middle.symm)
      have hB1 := HB.out.grown hg1 HB.out.size (fun j hj => by cases hj; have := HRR.out; omega)
      have hG1 : IM w1 mb gm := XM.MapIs.kept HG.out hg1 (fun e => by cases e; have := HRR.out; omega)
      have hmem : (x, y) ∈ m := HS.out.sub.subset (by rw [hl]; simp)
      have HGN := Aside0.mk hgn
      have HPM := Aside0.mk hPM
      have hyb : Below w1.heap.size w1 (w1.alloc (.cells #[.int .i64 x.blk, .string x.idn, .int .i64 x.tm] 63)) := below_alloc (Below.refl _ _) _
      have hlen2 : gm.length < maxLen := by have := HL.out; have := HM.out; unfold maxLen; omega
      obtain ⟨X, hrun, hmap, hgr, hsz⟩ := XM.MapIs.store (w := w1.alloc (.cells #[.int .i64 x.blk, .string x.idn, .int .i64 x.tm] 63)) (XM.MapIs.below hG1 hyb) KeysI.encI Try.underlying94 (isKI x.blk (HBW.out _ hmem)) hlen2 ()
      have HX := Aside0.mk (And.intro hmap (And.intro hgr hsz))
      have HSY := Aside0.mk (HS1.out.below hyb)
      have HBY := Aside0.mk (below_then hB1 hB1.size hyb)
      have HLL := Aside0.mk HL.out
      have HKK := Aside0.mk HK.out
      simp only [ekP, evH, ekI, evU] at hen hrun ⊢
      clear hl hrg hg1 hs1 hdl hgn hPM hB1 hG1 hmem hlen2 HG HS HP HN HL HK HB HS1 hyb hmap hgr hsz
      go_wp2_with fail
      go_roundg (l1 ++ l2).length
      case measure => exact HGN.out
      case rel =>
        obtain ⟨hmap, hgr, hsz⟩ := HX.out
        have hrr := HRR.out
        refine ⟨l1 ++ l2, done ++ [(x, y)], _, ⟨HSY.out.kept hgr (fun e => by cases e; omega) (fun e => by cases e; omega)⟩, HPM, ⟨rfl⟩, ⟨hmap⟩, ⟨fun n => ?_⟩, ⟨by have := HLL.out; have := XM.length_aput gm x.blk (); simp only [List.length_append, List.length_singleton]; omega⟩, ⟨HBY.out.grown hgr HBY.out.size (fun j hj => by cases hj; omega)⟩⟩
        rw [aputI_keys, HKK.out]
        constructor
        · rintro (rfl | ⟨e, he, h⟩)
          · exact ⟨(x, y), by simp, rfl⟩
          · exact ⟨e, List.mem_append_left _ he, h⟩
        · rintro ⟨e, he, h⟩
          rcases List.mem_append.1 he with he | he
          · exact .inr ⟨e, he, h⟩
          · have := List.mem_singleton.1 he
            subst this
            exact .inl h.symm
end Buf
end Go.Proofs.Ytmocpglnoehknaa
