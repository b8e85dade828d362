/- buffer.Done, Drop (maps.DeleteFunc with their closure): what they leave. -/
import Derived.Test.YtmocpglnoehknaaBuf1
import Derived.Test.YtmocpglnoehknaaTwice
namespace Go.Proofs.Ytmocpglnoehknaa
set_option linter.unusedVariables false
set_option linter.unusedSimpArgs false
open Go.RowKit Go.Proofs.YtmocpglnoehknaaW.PrintWords Go.Proofs.YtmocpglnoehknaaW.PrintLast Go.Proofs.YtmocpglnoehknaaW.PrintMore Go.Proofs.Ytmocpglnoehknaa.QT
namespace Buf
theorem Is.mi {w : World} {g b : Nat} {m : Mp} {ver : Int} (h : Is w g b m ver) : MI w b m := h.2
/-- Does Done keep an entry? -/
def keepE (blk ver : Int) (e : Place × Held) : Bool := !(e.1.blk == blk && decide (e.2.ver ≤ ver))
theorem sublist_ext {γ : Type} {m l1 l2 : List γ} (hn : m.Nodup) (h1 : l1.Sublist m) (h2 : l2.Sublist m) (h : ∀ x, x ∈ l1 ↔ x ∈ l2) : l1 = l2 := by
  classical
  rw [XM.sublist_filter h1 hn, XM.sublist_filter h2 hn]
  exact List.filter_congr (fun x _ => by simp [h x])
set_option maxHeartbeats 1000000 in
theorem done1_calls (W : World) (a : Place) (h : Held) (gb gv : Nat) (blk ver : Int) (hb : W.heap[gb]? = some (.cells #[.int .i64 blk] 3 (0, 0))) (hv : W.heap[gv]? = some (.cells #[.int .i64 ver] 3 (0, 0))) :
    Calls Try.prog 37 #[.agg #[.int .i64 a.blk, .string a.idn, .int .i64 a.tm], .agg #[.int .i64 h.p.f0, .int .u64 h.p.f1, .int .u64 h.p.f2, .int .i64 h.ver], .pointer (some ⟨gb, 0, none⟩), .pointer (some ⟨gv, 0, none⟩)] W fun e w' => e = .returned (.bool (!keepE blk ver (a, h))) ∧ Below W.heap.size W w' := by
  have hk : (!keepE blk ver (a, h)) = (a.blk == blk && decide (h.ver ≤ ver)) := by unfold keepE; simp
  rw [hk]
  clear hk
  have c0 : W.cell? ⟨gb, 0, none⟩ = some (.int .i64 blk) := (blk_cell hb 0).trans rfl
  have c1 : W.cell? ⟨gv, 0, none⟩ = some (.int .i64 ver) := (blk_cell hv 0).trans rfl
  have l0 := blk_lt hb
  have l1 := blk_lt hv
  have HB := Aside0.mk (below_alloc (below_alloc (Below.refl W.heap.size W) (.cells #[.int .i64 a.blk, .string a.idn, .int .i64 a.tm] 63)) (.cells #[.int .i64 h.p.f0, .int .u64 h.p.f1, .int .u64 h.p.f2, .int .i64 h.ver] 65))
  clear hb hv
  by_cases hq : a.blk = blk
  · have hb : (a.blk == blk) = true := by simpa using hq
    rw [hb, Bool.true_and]
    clear hq
    obtain ⟨r, hr⟩ : ∃ r, decide (h.ver ≤ ver) = r := ⟨_, rfl⟩
    rw [hr]
    go_enter Try.func37, Try.ntmps37
    go_wp2
    go_ret
    exact ⟨rfl, HB.out⟩
  · have hb : (a.blk == blk) = false := by simpa using hq
    rw [hb, Bool.false_and]
    clear hq
    go_enter Try.func37, Try.ntmps37
    go_wp2
    go_ret
    exact ⟨rfl, HB.out⟩
set_option maxHeartbeats 1000000 in
set_option maxRecDepth 100000 in
theorem delf_calls (w : World) (b : Nat) (m : Mp) (hm : MI w b m) (gb gv : Nat) (blk ver : Int) (hb : w.heap[gb]? = some (.cells #[.int .i64 blk] 3 (0, 0))) (hv : w.heap[gv]? = some (.cells #[.int .i64 ver] 3 (0, 0))) :
    Calls Try.prog 36 #[.map (some b), .func (.func 37) #[] #[.pointer (some ⟨gb, 0, none⟩), .pointer (some ⟨gv, 0, none⟩)]] w fun e w' => e = .returned (.tuple #[]) ∧ MI w' b (m.filter (keepE blk ver)) ∧ w.grownBy w' (some b) := by
  have HM := Lib.hid hm
  have HB := Lib.hid hb
  have HV := Lib.hid hv
  have HNB := Lib.hid (show b ≠ gb ∧ b ≠ gv ∧ gb < w.heap.size ∧ gv < w.heap.size ∧ b < w.heap.size from ⟨hm.noCells hb, hm.noCells hv, blk_lt hb, blk_lt hv, hm.lt⟩)
  clear hm hb hv
  go_enter Try.func36, Try.ntmps36
  go_wp2_with (at_range; refine XM.wp_range _ rfl _ 59 rfl 63 65 Try.underlying59 b m rfl HM.out ?_; intro w0 hrg0 hg0 hs0; have HR0 := Lib.hid (And.intro hrg0 (And.intro hg0 hs0)); clear hrg0 hg0 hs0)
  go_frame
  go_loopg [] m.length (fun gn wr => ∃ (m2 left : Mp), Aside0 (XM.RangeIs Try.prog 63 ekP evH wr b w.heap.size m2 left) ∧ Aside0 (gn = left.length) ∧ Aside0 (m2.Sublist m ∧ ∀ e, e ∈ m2 ↔ e ∈ m ∧ (e ∈ left ∨ keepE blk ver e = true)) ∧ Aside0 (w.grownBy wr (some b) ∧ w.heap.size < wr.heap.size))
  case atStart => exact ⟨m, m, ⟨HR0.out.1⟩, ⟨rfl⟩, ⟨List.Sublist.refl _, fun e => ⟨fun h => ⟨h, .inl h⟩, fun h => h.1⟩⟩, ⟨HR0.out.2.1.but _, by have := HR0.out.2.2; omega⟩⟩
  case round =>
    clear HR0
    obtain ⟨m2, left, HS, HN, HE, HG⟩ := hrel
    go_wp2_with (at_next; refine XM.wp_next _ rfl _ rfl 63 b w.heap.size m2 left rfl HS.out ?_ ?_)
    · intro hleft
      have HL := Aside0.mk hleft
      clear hleft
      go_wp2
      go_end0
      refine ⟨rfl, ?_, HG.out.1⟩
      have hnd : m.Nodup := XM.nodup_of_map Prod.fst HM.out.nodup
      have e1 : m.filter (keepE blk ver) = m2 := sublist_ext hnd List.filter_sublist HE.out.1 (fun x => by rw [HE.out.2 x, HL.out]; simp)
      rw [e1]
      exact HS.out.map
    · intro l1 l2 x y w1 hl hrg hg1 hs1 hen
      have HL := Aside0.mk hl
      have HS1 := Aside0.mk hrg
      have hgw := HG.out.1.andThen hg1 (fun j hj => by cases hj; exact .inl (Nat.le_refl _))
      have HW1 := Aside0.mk (And.intro hgw (show w.heap.size < w1.heap.size by have := HG.out.2; omega))
      clear hl hrg hg1 hs1 hgw
      simp only [ekP, evH] at hen ⊢
      have hb1 := blk_grown HB.out HW1.out.1 (fun e => HNB.out.1 (by cases e; rfl))
      have hv1 := blk_grown HV.out HW1.out.1 (fun e => HNB.out.2.1 (by cases e; rfl))
      have hbb : Below w1.heap.size w1 ((w1.alloc (.cells #[.int .i64 x.blk, .string x.idn, .int .i64 x.tm] 63)).alloc (.cells #[.int .i64 y.p.f0, .int .u64 y.p.f1, .int .u64 y.p.f2, .int .i64 y.ver] 65)) := below_alloc (below_alloc (Below.refl _ _) _) _
      have HC := Lib.hid (done1_calls _ x y gb gv blk ver (blk_below hb1 hbb) (blk_below hv1 hbb))
      have HBB := Lib.hid hbb
      clear hb1 hv1 hbb
      go_wp2_with fail
      with_reducible refine HC.out.mono ?_
      rintro e w2 ⟨rfl, hB2⟩
      have hb2 : Below w1.heap.size w1 w2 := below_then HBB.out HBB.out.size hB2
      have HG2 := Aside0.mk (And.intro (HW1.out.1.andThen (grown_of_below hb2 none) (by simp)) (show w.heap.size < w2.heap.size by have := HW1.out.2; have := hb2.size; omega))
      have HS2 := Aside0.mk (HS1.out.below hb2)
      have k0 : w2.cell? ⟨w1.heap.size, 0, none⟩ = some (.int .i64 x.blk) := (blk_cell (blk_below (blk_alloc (blk_new w1 _) _) hB2) 0).trans rfl
      have k1 : w2.cell? ⟨w1.heap.size, 1, none⟩ = some (.string x.idn) := (blk_cell (blk_below (blk_alloc (blk_new w1 _) _) hB2) 1).trans rfl
      have k2 : w2.cell? ⟨w1.heap.size, 2, none⟩ = some (.int .i64 x.tm) := (blk_cell (blk_below (blk_alloc (blk_new w1 _) _) hB2) 2).trans rfl
      have hsub := HS2.out.sub
      have hnd2 := HS2.out.map.nodup
      have hxm : (x, y) ∈ m2 := by have := HS.out.sub.subset (show (x, y) ∈ left by rw [HL.out]; simp); exact this
      have hno : ∀ p ∈ l1 ++ l2, p.1 ≠ x := by
        intro p hp he
        have hs : left.Sublist m2 := HS.out.sub
        have hn : (XM.keys left).Nodup := hnd2.sublist (hs.map _)
        rw [HL.out] at hn
        unfold XM.keys at hn
        rw [List.map_append, List.map_cons, List.nodup_append] at hn
        obtain ⟨_, n2, n3⟩ := hn
        rcases List.mem_append.1 hp with h | h
        · exact n3 p.1 (List.mem_map.2 ⟨p, h, rfl⟩) x (by simp) he
        · exact (List.nodup_cons.1 n2).1 (by rw [← he]; exact List.mem_map.2 ⟨p, h, rfl⟩)
      have HF := Lib.hid (And.intro hxm hno)
      have HK := Lib.hid (HM.out.isK _ ((HE.out.2 (x, y)).1 hxm).1)
      clear hb2 hB2 HBB HC hsub hnd2 hxm hno hen
      obtain ⟨kb, hkb⟩ : ∃ r, keepE blk ver (x, y) = r := ⟨_, rfl⟩
      have HKB := Lib.hid hkb
      rw [hkb]
      clear hkb
      cases kb with
      | true =>
        clear k0 k1 k2
        go_wp2_with fail
        go_roundg (l1 ++ l2).length
        case measure => rw [HN.out, HL.out]; simp
        case rel =>
          refine ⟨m2, l1 ++ l2, HS2, ⟨rfl⟩, ⟨HE.out.1, fun e => ?_⟩, HG2⟩
          rw [HE.out.2 e, HL.out]
          constructor
          · rintro ⟨h1, h2⟩
            refine ⟨h1, ?_⟩
            rcases h2 with h2 | h2
            · rcases List.mem_append.1 h2 with h2 | h2
              · exact .inl (List.mem_append_left _ h2)
              · rcases List.mem_cons.1 h2 with rfl | h2
                · exact .inr HKB.out
                · exact .inl (List.mem_append_right _ h2)
            · exact .inr h2
          · rintro ⟨h1, h2⟩
            refine ⟨h1, ?_⟩
            rcases h2 with h2 | h2
            · rcases List.mem_append.1 h2 with h2 | h2
              · exact .inl (List.mem_append_left _ h2)
              · exact .inl (List.mem_append_right _ (List.mem_cons_of_mem _ h2))
            · exact .inr h2
      | false =>
        go_wp2_with (at_delete; refine XM.wp_delete_ranges _ rfl _ _ 59 63 rfl 65 encP Try.underlying59 b w.heap.size m2 (l1 ++ l2) rfl HS2.out x rfl HK.out HF.out.2 ?_; intro w3 hS3 hg3 hs3; have HS3 := Aside0.mk hS3; have HG3 := Aside0.mk (And.intro hg3 hs3); clear hS3 hg3 hs3)
        go_roundg (l1 ++ l2).length
        case measure => rw [HN.out, HL.out]; simp
        case rel =>
          refine ⟨XM.adel m2 x, l1 ++ l2, HS3, ⟨rfl⟩, ⟨(List.filter_sublist).trans HE.out.1, fun e => ?_⟩, ⟨HG2.out.1.andThen HG3.out.1 (fun j hj => by cases hj; exact .inr rfl), by have := HG2.out.2; have := HG3.out.2; omega⟩⟩
          have hnm : (XM.keys m).Nodup := HM.out.nodup
          have hxm' := ((HE.out.2 (x, y)).1 HF.out.1).1
          unfold XM.adel
          rw [List.mem_filter, HE.out.2 e, HL.out]
          constructor
          · rintro ⟨⟨h1, h2⟩, h3⟩
            refine ⟨h1, ?_⟩
            have h3' : e.1 ≠ x := by simpa using h3
            rcases h2 with h2 | h2
            · rcases List.mem_append.1 h2 with h2 | h2
              · exact .inl (List.mem_append_left _ h2)
              · rcases List.mem_cons.1 h2 with rfl | h2
                · exact absurd rfl h3'
                · exact .inl (List.mem_append_right _ h2)
            · exact .inr h2
          · rintro ⟨h1, h2⟩
            rcases h2 with h2 | h2
            · have h4 := HF.out.2 e h2
              refine ⟨⟨h1, ?_⟩, by simpa using h4⟩
              rcases List.mem_append.1 h2 with h2 | h2
              · exact .inl (List.mem_append_left _ h2)
              · exact .inl (List.mem_append_right _ (List.mem_cons_of_mem _ h2))
            · refine ⟨⟨h1, .inr h2⟩, ?_⟩
              have : e.1 ≠ x := fun he => by
                have := key_inj hnm h1 hxm' he
                rw [this, HKB.out] at h2
                cases h2
              simpa using this
set_option maxHeartbeats 1000000 in
theorem done_calls (w : World) (g b : Nat) (m : Mp) (ver : Int) (h : Is w g b m ver) (hm : m.length ≤ 1000000000) (blk v : Int) :
    Calls Try.prog 21 #[.pointer (some ⟨g, 0, none⟩), .int .i64 blk, .int .i64 v] w fun e w' => e = .returned (.int .i64 ((m.length : Int) - ((m.filter (keepE blk v)).length : Nat))) ∧ Is w' g b (m.filter (keepE blk v)) ver ∧ Fr g b w w' := by
  have HI := Lib.hid h
  have hl2 := List.length_filter_le (keepE blk v) m
  obtain ⟨m', hm'⟩ : ∃ m', m' = m.filter (keepE blk v) := ⟨_, rfl⟩
  rw [← hm'] at hl2 ⊢
  have HM' := Lib.hid hm'
  have c0 : w.cell? ⟨g, 0, none⟩ = some (.map (some b)) := (blk_cell h.1 0).trans rfl
  clear h hm'
  go_enter Try.func21, Try.ntmps21
  go_wp2_with (first
    | ((with_reducible refine gate_dst (N := 4) rfl ?_); refine box_event rfl (N := 4) rfl (cs := #[.int .i64 blk]) (t := 3) ?hr ?_; (case hr => first | (go_simp; done) | (go_simp; rfl)); intro gb hgb w1 hbox hb1; have HB1 := Lib.hid (And.intro hgb (And.intro hbox hb1)); clear hgb hbox hb1)
    | ((with_reducible refine gate_dst (N := 5) rfl ?_); refine box_event rfl (N := 5) rfl (cs := #[.int .i64 v]) (t := 3) ?hr ?_; (case hr => first | (go_simp; done) | (go_simp; rfl)); intro gv hgv w2 hbox hb2; have HI2 := Lib.hid ((HI.out.below HB1.out.2.2).below hb2); have HB2 := Lib.hid (And.intro hgv (And.intro hbox hb2)); have c2 : w2.cell? ⟨g, 0, none⟩ = some (.map (some b)) := (blk_cell HI2.out.1 0).trans rfl; clear hgv hbox hb2)
    | (at_len; refine XM.wp_len _ rfl _ 59 rfl 63 65 Try.underlying59 b m rfl HI2.out.mi ?_))
  with_reducible refine (delf_calls _ b m HI2.out.mi gb gv blk v (blk_below HB1.out.2.1 HB2.out.2.2) HB2.out.2.1).mono ?_
  rintro e w3 ⟨rfl, hM, hg⟩
  rw [← HM'.out] at hM
  have hI3 : Is w3 g b m' ver := ⟨blk_grown HI2.out.1 hg (fun e => HI2.out.ne (by cases e; rfl)), hM⟩
  have HI3 := Lib.hid hI3
  have HG3 := Lib.hid hg
  have c3 : w3.cell? ⟨g, 0, none⟩ = some (.map (some b)) := (blk_cell hI3.1 0).trans rfl
  clear hM hg hI3 c0 c2
  go_wp2_with (at_len; refine XM.wp_len _ rfl _ 59 rfl 63 65 Try.underlying59 b m' rfl HI3.out.mi ?_)
  go_ret
  refine ⟨rfl, HI3.out, ?_⟩
  have f1 : Fr g b w w2 := Fr.of_below (below_then HB1.out.2.2 HB1.out.2.2.size HB2.out.2.2)
  exact f1.trans ⟨HG3.out.os, HG3.out.tape, HG3.out.output, HG3.out.size, fun i hi _ hb => HG3.out.block i hi (fun e => hb (by cases e; rfl))⟩
set_option maxHeartbeats 1000000 in
theorem drop_calls (w : World) (g b : Nat) (m : Mp) (ver : Int) (h : Is w g b m ver) (hm : m.length ≤ 1000000000) (blk : Int) :
    Calls Try.prog 23 #[.pointer (some ⟨g, 0, none⟩), .int .i64 blk] w fun e w' => e = .returned (.int .i64 ((m.length : Int) - ((m.filter (keepE blk ver)).length : Nat))) ∧ Is w' g b (m.filter (keepE blk ver)) ver ∧ Fr g b w w' := by
  have HC := Lib.hid (done_calls w g b m ver h hm blk ver)
  have c1 : w.cell? ⟨g, 1, none⟩ = some (.int .i64 ver) := (blk_cell h.1 1).trans rfl
  clear h hm
  go_enter Try.func23, Try.ntmps23
  go_wp2_with fail
  with_reducible refine HC.out.mono ?_
  rintro e w1 ⟨rfl, hI, hF⟩
  have HR := Lib.hid (And.intro hI hF)
  clear hI hF c1
  go_wp2
  go_ret
  exact ⟨rfl, HR.out.1, HR.out.2⟩
end Buf
end Go.Proofs.Ytmocpglnoehknaa
