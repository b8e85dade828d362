/- ranges.Sub. -/
import Derived.Test.YtiinmagnpkfbbaaNormal
import Derived.Deep.Light
namespace Go.Proofs.Ytiinmagnpkfbbaa
set_option linter.unusedVariables false
set_option linter.unusedSimpArgs false
open Go.RowKit Go.Proofs.YtiinmagnpkfbbaaW.PrintWords Go.Proofs.YtiinmagnpkfbbaaW.PrintLast Go.Proofs.YtiinmagnpkfbbaaW.PrintMore Go.Proofs.Ytiinmagnpkfbbaa.QT Go.Sort
namespace Rg
theorem lit_two (W : World) (a b c d : Int) (gl : Nat) (hg : gl = W.heap.size) : ReadsRow (fun (x : R) cs => cs = [.int .i64 x.f0, .int .i64 x.f1]) 2 (W.alloc (.cells #[.int .i64 a, .int .i64 b, .int .i64 c, .int .i64 d] 29)) (some ⟨gl, 0, none⟩) 2 [⟨a, b⟩, ⟨c, d⟩] := by
  subst hg
  refine ⟨rfl, by decide, fun _ => ⟨_, rfl, fun j p hj => ?_⟩⟩
  have hb : (W.alloc (.cells #[.int .i64 a, .int .i64 b, .int .i64 c, .int .i64 d] 29)).heap[W.heap.size]? = some (.cells #[.int .i64 a, .int .i64 b, .int .i64 c, .int .i64 d] 29 (0, 0)) := blk_new W _
  match j, hj with
  | 0, hj =>
    cases hj
    refine ⟨_, rfl, rfl, fun i u hu => ?_⟩
    match i, hu with
    | 0, hu => cases hu; exact (blk_cell hb 0).trans rfl
    | 1, hu => cases hu; exact (blk_cell hb 1).trans rfl
  | 1, hj =>
    cases hj
    refine ⟨_, rfl, rfl, fun i u hu => ?_⟩
    match i, hu with
    | 0, hu => cases hu; exact (blk_cell hb 2).trans rfl
    | 1, hu => cases hu; exact (blk_cell hb 3).trans rfl
theorem pieces_step (r : R) {l : List R} {i : Nat} (h : i < l.length) : pieces r (l.take (i + 1)) = pieces r (l.take i) ++ [⟨l[i].f0, min l[i].f1 r.f0⟩, ⟨max l[i].f0 r.f1, l[i].f1⟩] := by
  unfold pieces
  rw [List.take_succ_eq_append_getElem h, List.flatMap_append]
  simp
theorem pieces_len (r : R) (l : List R) : (pieces r l).length = 2 * l.length := by
  unfold pieces
  induction l with
  | nil => rfl
  | cons x l ih => rw [List.flatMap_cons, List.length_append, ih]; simp; omega
theorem addB_len : ∀ (l : List R) (r : R), (addB r l).length ≤ l.length + 1
  | [], r => by unfold addB; simp
  | x :: l, r => by
    unfold addB
    split
    · have := addB_len l ⟨min r.f0 x.f0, max r.f1 x.f1⟩; simp only [List.length_cons]; omega
    · simp
theorem addA_len : ∀ (l : List R) (r : R), (addA r l).length ≤ l.length + 1
  | [], r => by unfold addA; simp
  | x :: l, r => by
    unfold addA
    split
    · have := addA_len l r; simp only [List.length_cons]; omega
    · exact addB_len _ r
theorem addR_len (out : List R) (r : R) : (addR out r).length ≤ out.length + 1 := by
  unfold addR
  split
  · omega
  · exact addA_len out r
theorem normR_len (l : List R) : (normR l).length ≤ l.length := by
  have h : ∀ (l out : List R), (l.foldl addR out).length ≤ out.length + l.length := by
    intro l
    induction l with
    | nil => intro out; simp
    | cons r l ih => intro out; rw [List.foldl_cons]; have h1 := ih (addR out r); have h2 := addR_len out r; simp only [List.length_cons]; omega
  have := h l []
  unfold normR
  simpa using this
theorem wrap_up (i : Nat) (h : i ≤ 1000000) : wrap64 ((i : Int) + 1) = (i : Int) + 1 := by unfold wrap64; omega
theorem rdR {l : List R} {i : Nat} (h : i < l.length) : rd_T29 l (i : Int) = l[i] := by
  unfold rd_T29
  rw [Int.toNat_natCast, List.getD_eq_getElem?_getD, List.getElem?_eq_getElem h]
  rfl
set_option maxHeartbeats 4000000 in
set_option maxRecDepth 100000 in
theorem sub_calls (w : World) (A : Option Addr) (c : Nat) (l : List R) (r : R) (hC : Kd.C k29 w A l.length l) (hc : l.length ≤ c) (hl : l.length ≤ 400000) :
    Calls Try.prog 26 #[.slice A l.length c, .agg #[.int .i64 r.f0, .int .i64 r.f1]] w fun e w' => ∃ v : Value, e = .returned v ∧ Kd.R k29 29 w' w.heap.size (fun _ => True) v (subR l r) ∧ Below w.heap.size w w' := by
  have HC := Lib.hid hC
  clear hC
  by_cases hle : r.f1 ≤ r.f0
  · have d0 : decide (r.f1 ≤ r.f0) = true := decide_eq_true hle
    have HS := Lib.hid (show subR l r = normR l by unfold subR; rw [if_pos hle])
    go_enter Try.func26, Try.ntmps26
    go_wp2_with ((with_reducible refine gate_dst (N := 3) rfl ?_); refine box_event rfl (N := 3) rfl (cs := #[.int .i64 r.f0, .int .i64 r.f1]) (t := 29) ?hr ?_; (case hr => first | (go_simp; done) | (go_simp; rfl)); intro g3 hg3 X hbox hbX; have HX := Lib.hid hbX; have HG3 := Lib.hid hbox; have y0 : X.cell? ⟨g3, 0, none⟩ = some (.int .i64 r.f0) := (blk_cell hbox 0).trans rfl; have y1 : X.cell? ⟨g3, 1, none⟩ = some (.int .i64 r.f1) := (blk_cell hbox 1).trans rfl; clear hg3 hbox hbX)
    have HN := Lib.hid (normal_calls X A c l (Kd.C_below HC.out HX.out) hc (by omega))
    with_reducible refine HN.out.mono ?_
    rintro e w1 ⟨v1, rfl, hR1, hb1⟩
    have HRR := Lib.hid (Kd.R_lower hR1 HX.out.size)
    have HBB := Lib.hid (below_then HX.out HX.out.size hb1)
    clear hR1 hb1
    go_wp2
    go_ret
    exact ⟨v1, rfl, by rw [HS.out]; exact HRR.out, HBB.out⟩
  · have d0 : decide (r.f1 ≤ r.f0) = false := decide_eq_false hle
    have HS := Lib.hid (show subR l r = normR (pieces r (normR l)) by unfold subR; rw [if_neg hle])
    go_enter Try.func26, Try.ntmps26
    go_wp2_with ((with_reducible refine gate_dst (N := 3) rfl ?_); refine box_event rfl (N := 3) rfl (cs := #[.int .i64 r.f0, .int .i64 r.f1]) (t := 29) ?hr ?_; (case hr => first | (go_simp; done) | (go_simp; rfl)); intro g3 hg3 X hbox hbX; have HX := Lib.hid hbX; have HG3 := Lib.hid hbox; have y0 : X.cell? ⟨g3, 0, none⟩ = some (.int .i64 r.f0) := (blk_cell hbox 0).trans rfl; have y1 : X.cell? ⟨g3, 1, none⟩ = some (.int .i64 r.f1) := (blk_cell hbox 1).trans rfl; clear hg3 hbox hbX)
    have HN := Lib.hid (normal_calls X A c l (Kd.C_below HC.out HX.out) hc (by omega))
    with_reducible refine HN.out.mono ?_
    rintro e w1 ⟨v1, rfl, hR1, hb1⟩
    have HNL := Lib.hid (normR_len l)
    obtain ⟨L, hL⟩ : ∃ L, normR l = L := ⟨_, rfl⟩
    rw [hL] at hR1 HNL HS
    have HLL := Lib.hid (show L.length ≤ 400000 from Nat.le_trans HNL.out hl)
    have HB1 := Lib.hid (below_then HX.out HX.out.size hb1)
    have HG31 := Lib.hid (blk_below HG3.out hb1)
    obtain ⟨A1, c1, rfl⟩ := Kd.R_slice hR1
    have HR1 := Lib.hid hR1
    clear hL hR1 hb1 HN HNL HC y0 y1 hle
    go_wp2_with fail
    go_loopg [5, 7, 18] L.length (fun gn v5 v7 v18 wr => ∃ (i : Nat), v18 = .int .i64 (i : Int) ∧ Aside0 (gn = L.length - i) ∧ Aside0 (i ≤ L.length) ∧ Aside0 (Kd.R k29 29 wr w1.heap.size (fun _ => True) v5 (pieces r (L.take i))) ∧ Aside0 (Below w1.heap.size w1 wr))
    case atStart => exact ⟨0, rfl, ⟨rfl⟩, ⟨Nat.zero_le _⟩, ⟨by rw [List.take_zero]; exact Kd.R_nil _ _ _ _ _⟩, ⟨Below.refl _ _⟩⟩
    case round =>
      obtain ⟨i, rfl, HN, HI, HR, HB⟩ := hrel
      have y0 : wr.cell? ⟨g3, 0, none⟩ = some (.int .i64 r.f0) := (blk_cell (blk_below HG31.out HB.out) 0).trans rfl
      have y1 : wr.cell? ⟨g3, 1, none⟩ = some (.int .i64 r.f1) := (blk_cell (blk_below HG31.out HB.out) 1).trans rfl
      have y2 : g3 < wr.heap.size := blk_lt (blk_below HG31.out HB.out)
      by_cases hi : i < L.length
      · have hi0 : (i : Int) < (L.length : Int) := by omega
        have hwi := wrap_up i (by have := HLL.out; omega)
        obtain ⟨ad, e1, r0, r1⟩ := at_T29 (Kd.C_below (Kd.R_reads' HR1.out).2.2 HB.out) (i : Int) (by omega) hi0
        cases e1
        rw [Int.toNat_natCast] at r0 r1
        obtain ⟨x, hx⟩ : ∃ x, rd_T29 L (i : Int) = x := ⟨_, rfl⟩
        rw [hx] at r0 r1
        have hst := pieces_step r hi
        rw [show L[i] = x from by rw [← hx, rdR hi]] at hst
        have HST := Lib.hid hst
        have HIN := Lib.hid (show ∀ k, k = L.length - i → L.length - (i + 1) < k by intro k hk; omega)
        have HLO := Lib.hid (show (pieces r (L.take i)).length ≤ 800000 by rw [pieces_len, List.length_take]; have := HLL.out; omega)
        clear hx hst
        have HRX := Lib.hid (Kd.R_alloc HR.out (.cells #[.int .i64 x.f0, .int .i64 x.f1] 29))
        have HBX := Lib.hid (below_alloc HB.out (.cells #[.int .i64 x.f0, .int .i64 x.f1] 29))
        obtain ⟨A6, n6, c6, rfl⟩ : ∃ A n c, u5 = .slice A n c := by obtain ⟨A, c, e⟩ := Kd.R_slice HR.out; exact ⟨A, _, c, e⟩
        go_wp2_with (at_builtin; go_loud (refine (Kd.R_append_rows k29 (Rr := fun x cs => cs = [.int .i64 x.f0, .int .i64 x.f1]) (w0 := w1) w1.heap.size rfl (.tmp 22) (.tmp 39) 42 29 (.agg #[.int .i64 0, .int .i64 0]) 16 rfl Try.underlying42 info29 rfl (by decide) (by decide) (.slice A6 n6 c6) (pieces r (L.take i)) [⟨x.f0, min x.f1 r.f0⟩, ⟨max x.f0 r.f1, x.f1⟩] ?qA 2 2 (fun _ => True) (fun _ => False) ?aX ?aP ?aO ?aR ?aK (fun _ hk => hk.elim) (fun _ _ => trivial) ?aB ?aS ?aL ?_)); go_loud (case aX => first | rfl | (go_simp; done)); go_loud (case aP => first | rfl | (go_simp; rfl)); (case aK => exact (fun y cs h => by subst h; exact k29_mkM _ _ _ y)); go_loud (case aR => exact lit_two _ _ _ _ _ _ (by simp)); go_loud (case aO => exact Kd.R_alloc HRX.out _); go_loud (case aB => exact below_alloc HBX.out _); go_loud (case aS => exact (below_alloc HBX.out _).size); go_loud (case aL => have := HLO.out; omega); intro v5 w5 hR5 hB5 hg5 hat5; have HR5 := Lib.hid hR5; have HB5 := Lib.hid hB5; clear hR5 hB5 hg5 hat5)
        go_roundg (L.length - (i + 1))
        case measure => exact HIN.out _ HN.out
        case rel => exact ⟨i + 1, by first | rfl | (rw [hwi]; rfl) | (simp [hwi]; done) | (simp [hwi]; omega), ⟨rfl⟩, ⟨hi⟩, ⟨by rw [HST.out]; exact HR5.out⟩, ⟨HB5.out⟩⟩
      · have hge : ¬ (i : Int) < (L.length : Int) := by omega
        have hie : i = L.length := by have := HI.out; omega
        have HRA := HR.out
        rw [hie, List.take_length] at HRA
        obtain ⟨A6, c6, rfl⟩ := Kd.R_slice HRA
        have HLP := Lib.hid (show (pieces r L).length ≤ 800000 by rw [pieces_len]; have := HLL.out; omega)
        have HN2 := Lib.hid (normal_calls wr A6 c6 (pieces r L) (Kd.R_reads' HRA).2.2 (Kd.R_reads' HRA).2.1 (by have := HLP.out; omega))
        clear hie HR HRA
        go_wp2_with fail
        with_reducible refine HN2.out.mono ?_
        rintro e w9 ⟨v9, rfl, hR9, hb9⟩
        have HBW := Lib.hid (below_then HB1.out HB1.out.size HB.out)
        have HR9 := Lib.hid (Kd.R_lower hR9 HBW.out.size)
        have HB9 := Lib.hid (below_then HBW.out HBW.out.size hb9)
        clear hR9 hb9 HN2
        go_wp2
        go_ret
        exact ⟨v9, rfl, by rw [HS.out]; exact HR9.out, HB9.out⟩
end Rg
end Go.Proofs.Ytiinmagnpkfbbaa
