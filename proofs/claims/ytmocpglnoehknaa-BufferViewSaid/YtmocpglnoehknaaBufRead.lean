/- buffer.Read: the view of a name's points, cut. -/
import Derived.Test.YtmocpglnoehknaaBufOps
import Derived.Test.YtmocpglnoehknaaMergeOne
namespace Go.Proofs.Ytmocpglnoehknaa
set_option linter.unusedVariables false
set_option linter.unusedSimpArgs false
open Go.RowKit Go.Proofs.YtmocpglnoehknaaW.PrintWords Go.Proofs.YtmocpglnoehknaaW.PrintLast Go.Proofs.YtmocpglnoehknaaW.PrintMore Go.Proofs.Ytmocpglnoehknaa.QT
namespace Buf
theorem below_of_grown_none {w w' : World} (h : w.grownBy w' none) : Below w.heap.size w w' := ⟨h.os, h.tape, h.output, h.size, fun i hi => h.block i hi (by simp)⟩
/-- The points of a name, whatever their order. -/
def pts (idn : ByteArray) (l : Mp) : List Pt := (l.filter (fun e => decide (e.1.idn = idn))).map (·.2.p)
theorem bytes_ne {a b : ByteArray} (h : a ≠ b) : (a.toList == b.toList) = false := by
  rw [beq_eq_false_iff_ne]
  intro e
  rw [ByteArray.toList_eq, ByteArray.toList_eq] at e
  exact h (ByteArray.ext (Array.toList_inj.mp e))
theorem pts_len (idn : ByteArray) (l : Mp) : (pts idn l).length ≤ l.length := by
  unfold pts
  rw [List.length_map]
  exact List.length_filter_le _ _
set_option maxHeartbeats 1000000 in
theorem read_calls (w : World) (g b : Nat) (m : Mp) (ver : Int) (h : Is w g b m ver) (idn : ByteArray) (lo hi : Int) (hm : m.length ≤ 1000000000) :
    Calls Try.prog 11 #[.pointer (some ⟨g, 0, none⟩), .string idn, .agg #[.int .i64 lo, .int .i64 hi]] w fun e w' => ∃ v : Value, e = .returned v ∧ Kd.R k24 24 w' w.heap.size (fun _ => True) v (Vw.cut (Vw.view (pts idn m)) lo hi) ∧ Below w.heap.size w w' := by
  have HI := Lib.hid h
  have HM := Lib.hid hm
  clear h hm
  go_enter Try.func11, Try.ntmps11
  go_wp2_with (first
    | ((with_reducible refine gate_dst (N := 5) rfl ?_); refine box_event rfl (N := 5) rfl (cs := #[.int .i64 lo, .int .i64 hi]) (t := 32) ?hr ?_; (case hr => first | (go_simp; done) | (go_simp; rfl)); intro g5 hg5 w5 hbox hb5; have HB5 := Lib.hid (And.intro hg5 (And.intro hbox hb5)); have c0 : w5.cell? ⟨g, 0, none⟩ = some (.map (some b)) := (blk_cell (HI.out.below hb5).1 0).trans rfl; clear hg5 hbox hb5)
    | (at_range; refine XM.wp_range _ rfl _ 59 rfl 63 65 Try.underlying59 b m rfl (HI.out.below HB5.out.2.2).2 ?_; intro w0 hrg0 hg0 hs0; have HR0 := Lib.hid (And.intro hrg0 hg0); clear hrg0 hg0 hs0))
  go_frame
  obtain ⟨hg5, hbox, hb5⟩ := HB5.out
  obtain ⟨hrg0, hg0⟩ := HR0.out
  obtain ⟨r, hr⟩ : ∃ r, r = w5.heap.size := ⟨_, rfl⟩
  rw [← hr]
  rw [← hr] at HR0 hrg0
  have hlt := HI.out.lt
  have hrw : w.heap.size < r := by rw [hr, ← hg5]; exact blk_lt hbox
  have hg5r : g5 ≠ r := by have := blk_lt hbox; omega
  have HB0 := Aside0.mk (below_then hb5 (hb5.size) (below_of_grown_none hg0))
  have HX0 := Aside0.mk (blk_grown hbox hg0 (by simp))
  have HG5 := Aside0.mk (And.intro (show w.heap.size ≤ g5 by omega) (And.intro hg5r (And.intro (show w.heap.size ≤ r by omega) hlt)))
  have HS0 := Aside0.mk hrg0
  clear hg5 hbox hb5 hrg0 hg0 hr hlt hrw hg5r HR0 HB5 c0
  go_loopg [7] m.length (fun gn v wr => ∃ (left done : Mp), Aside0 (XM.RangeIs Try.prog 63 ekP evH wr b r m left) ∧ Aside0 ((done ++ left).Perm m) ∧ Aside0 (gn = left.length) ∧ Aside0 (Kd.R k24 24 wr w.heap.size (fun k => k ≠ r ∧ k ≠ g5) v (pts idn done)) ∧ Aside0 (wr.heap[g5]? = some (.cells #[.int .i64 lo, .int .i64 hi] 32 (0, 0))) ∧ Aside0 (Below w.heap.size w wr))
  case atStart => exact ⟨m, [], HS0, ⟨List.Perm.refl _⟩, ⟨rfl⟩, ⟨Kd.R_nil _ _ _ _ _⟩, HX0, HB0⟩
  case round =>
    obtain ⟨left, done, HS, HP, HN, HO, HX, HB⟩ := hrel
    clear HS0 HX0 HB0
    go_wp2_with (at_next; refine XM.wp_next _ rfl _ rfl 63 b r m left rfl HS.out ?_ ?_)
    · intro hleft
      have HL := Aside0.mk hleft
      clear hleft
      obtain ⟨A7, c7, rfl⟩ := Kd.R_slice HO.out
      rw [HL.out, List.append_nil] at HP
      clear HL
      have hdom := Vw.view_dom (Vw.Dom.perm (show (pts idn done).Perm (pts idn m) from (HP.out.filter _).map _))
      have HD := Aside0.mk hdom
      have hdl : (pts idn done).length ≤ 1099511627776 := by have q1_ := pts_len idn done; have q2_ := HP.out.length_eq; have q3_ := HM.out; omega
      have HDL := Aside0.mk hdl
      have hc0 : wr.cell? ⟨g5, 0, none⟩ = some (.int .i64 lo) := (blk_cell HX.out 0).trans rfl
      have hc1 : wr.cell? ⟨g5, 1, none⟩ = some (.int .i64 hi) := (blk_cell HX.out 1).trans rfl
      have hg5l : g5 < wr.heap.size := blk_lt HX.out
      have HMR := Aside0.mk (fun (X : World) (hX : Below wr.heap.size wr X) (hq : X.heap[wr.heap.size]? = some (.cells #[.slice A7 (pts idn done).length c7] 29 (0, 0))) => Mg.merge_one (Kd.R_below HO.out hX) hq HDL.out)
      clear hdom hdl HS
      go_wp2_with fail
      go_region_with (first
        | (go_at_call 28; refine (HMR.out _ ?_ ?_).mono ?_; exact below_drew (below_alloc (Below.refl _ _) _); exact blk_new _ _; rintro e w3 ⟨v3, rfl, hR3, hB3⟩; have hd0 : w3.cell? ⟨g5, 0, none⟩ = some (.int .i64 lo) := (blk_cell (blk_below (blk_drew (blk_alloc HX.out _)) hB3) 0).trans rfl; have hd1 : w3.cell? ⟨g5, 1, none⟩ = some (.int .i64 hi) := (blk_cell (blk_below (blk_drew (blk_alloc HX.out _)) hB3) 1).trans rfl; have HR3 := Aside0.mk hR3; have HB3 := Aside0.mk hB3; clear hR3 hB3)
        | (go_at_call 27; refine (Mg.cut_any HR3.out lo hi ?_).mono ?_; exact Nat.le_trans (Vw.view_len _) HDL.out; rintro e w4 ⟨v4, rfl, hR4, hB4⟩; have HR4 := Aside0.mk hR4; have HB4 := Aside0.mk hB4; clear hR4 hB4))
      all_goals
        go_wp2
        go_ret
        have hsz : w.heap.size ≤ (wr.alloc (.cells #[.slice A7 (pts idn done).length c7] 29)).drew.heap.size := by have := HB.out.size; simp [World.drew]; omega
        have hbA : Below w.heap.size w w3 := below_then (below_drew (below_alloc HB.out _)) hsz HB3.out
        refine ⟨_, rfl, ?_, below_then hbA hbA.size HB4.out⟩
        rw [← HD.out]
        exact Kd.R_lower HR4.out hbA.size
    · intro l1 l2 x y w1 hl hrg hg1 hs1 hen
      have HL := Aside0.mk hl
      have HS1 := Aside0.mk hrg
      have HG1 := Aside0.mk hg1
      clear hl hrg hg1 hs1
      have hev : pts idn (done ++ [(x, y)]) = pts idn done ++ (if x.idn = idn then [y.p] else []) := by
        unfold pts
        rw [List.filter_append, List.map_append]
        congr 1
        by_cases hx : x.idn = idn
        · rw [if_pos hx, List.filter_cons, if_pos (by simpa using hx)]; rfl
        · rw [if_neg hx, List.filter_cons, if_neg (by simpa using hx)]; rfl
      have HEV := Aside0.mk hev
      clear hev
      simp only [ekP, evH] at hen ⊢
      have hPerm : (done ++ [(x, y)] ++ (l1 ++ l2)).Perm m := by
        refine List.Perm.trans ?_ HP.out
        rw [HL.out, List.append_assoc]
        exact List.Perm.append_left _ (show ((x, y) :: (l1 ++ l2)).Perm (l1 ++ (x, y) :: l2) from List.perm_middle.symm)
      have hgn : (l1 ++ l2).length < gk := by rw [HN.out, HL.out]; simp
      have hb1 : Below w.heap.size w w1 := HB.out.grown HG1.out HB.out.size (fun j hj => by cases hj; exact HG5.out.2.2.1)
      have hO1 : Kd.R k24 24 w1 w.heap.size (fun k => k ≠ r ∧ k ≠ g5) u7 (pts idn done) := Kd.R_grown HO.out HG1.out (fun k hk e => hk.1 (by cases e; rfl))
      have hX1 := blk_grown HX.out HG1.out (fun e => HG5.out.2.1 (by cases e; rfl))
      have HGN := Aside0.mk hgn
      have HPM := Aside0.mk hPerm
      have HB1 := Aside0.mk hb1
      have HO1 := Aside0.mk hO1
      have HX1 := Aside0.mk hX1
      clear hPerm hgn hb1 hO1 hX1 HB HO HX HN HP HG1 HS
      by_cases hx : x.idn = idn
      · have hw : (x.idn.toList == idn.toList) = true := by rw [hx]; simp
        rw [if_pos hx] at HEV
        clear hx
        go_wp2_with (at_builtin; refine (Kd.R_append k24 (w0 := w) w.heap.size rfl (.tmp 24) (.tmp 27) 29 24 (.agg #[.int .i64 0, .int .u64 0, .int .u64 0]) 24 rfl Try.underlying29 info24 rfl (by decide) (by omega) u7 (pts idn done) y.p [.int .i64 y.p.f0, .int .u64 y.p.f1, .int .u64 y.p.f2] (fun k => k ≠ r ∧ k ≠ g5) (fun _ => False) rfl ?aX ?aP (fun _ hk => hk.elim) ?aF ?aO ?aB ?aS ?aL ?_); (case aX => first | rfl | (go_simp; done) | (simp; done)); (case aP => exact k24_mkM _ _ _ y.p); (case aF => exact (fun k hk => ⟨fun e => by have := HS1.out.lt; simp at hk; omega, fun e => by have := blk_lt HX1.out; simp at hk; omega⟩)); (case aO => exact Kd.R_alloc (Kd.R_alloc HO1.out _) _); (case aB => exact below_alloc (below_alloc HB1.out _) _); (case aS => have := HB1.out.size; simp; omega); (case aL => have q1_ := pts_len idn done; have q2_ := HPM.out.length_eq; rw [List.length_append, List.length_append] at q2_; have q3_ := HM.out; omega); intro v1 w2 hR2 hB2 hg2 hat2; have HR2 := Aside0.mk hR2; have HB2 := Aside0.mk hB2; have HG2 := Aside0.mk hg2; clear hR2 hB2 hg2 hat2)
        go_roundg (l1 ++ l2).length
        case measure => exact HGN.out
        case rel =>
          have hbb : Below w1.heap.size w1 ((w1.alloc (.cells #[.int .i64 x.blk, .string x.idn, .int .i64 x.tm] 63)).alloc (.cells #[.int .i64 y.p.f0, .int .u64 y.p.f1, .int .u64 y.p.f2, .int .i64 y.ver] 65)) := below_alloc (below_alloc (Below.refl _ _) _) _
          refine ⟨l1 ++ l2, done ++ [(x, y)], ⟨?_⟩, HPM, ⟨rfl⟩, ⟨?_⟩, ⟨?_⟩, HB2⟩
          · refine (HS1.out.below hbb).kept HG2.out ?_ ?_
            · intro e; have := Kd.R_base HO1.out b e.symm; have := HG5.out.2.2.2; omega
            · intro e; exact (HO1.out.1 r e.symm).1 rfl
          · rw [HEV.out]; exact HR2.out
          · exact blk_grown (blk_below HX1.out hbb) HG2.out (fun e => (HO1.out.1 g5 e.symm).2 rfl)
      · have hw := bytes_ne hx
        rw [if_neg hx, List.append_nil] at HEV
        clear hx
        go_wp2_with fail
        go_roundg (l1 ++ l2).length
        case measure => exact HGN.out
        case rel =>
          have hbb : Below w1.heap.size w1 ((w1.alloc (.cells #[.int .i64 x.blk, .string x.idn, .int .i64 x.tm] 63)).alloc (.cells #[.int .i64 y.p.f0, .int .u64 y.p.f1, .int .u64 y.p.f2, .int .i64 y.ver] 65)) := below_alloc (below_alloc (Below.refl _ _) _) _
          refine ⟨l1 ++ l2, done ++ [(x, y)], ⟨HS1.out.below hbb⟩, HPM, ⟨rfl⟩, ⟨?_⟩, ⟨blk_below HX1.out hbb⟩, ⟨below_alloc (below_alloc HB1.out _) _⟩⟩
          rw [HEV.out]; exact Kd.R_alloc (Kd.R_alloc HO1.out _) _
end Buf
end Go.Proofs.Ytmocpglnoehknaa
