/- BootstrapEnough: the walk. -/
import Derived.Test.YtiinmagnpkfbbaaEnPure
namespace Go.Proofs.Ytiinmagnpkfbbaa
set_option linter.unusedVariables false
set_option linter.unusedSimpArgs false
open Go.RowKit Go.Proofs.YtiinmagnpkfbbaaW.PrintWords Go.Proofs.YtiinmagnpkfbbaaW.PrintLast Go.Proofs.YtiinmagnpkfbbaaW.PrintMore Go.Proofs.Ytiinmagnpkfbbaa.QT
namespace Bt
open Rg (normR)
theorem large_l0 (V : Int) (nodes : List Int) (shards : List (List Ow)) (hl : shards.length ≤ 9223372036854775807) : ∀ (d : Nat) (x i : Int), 0 ≤ i → i ≤ shards.length → (shards.length : Int) - i = d → ∃ r, Ev (fun k => thermographlaw18_large.l0 k x i V nodes shards) r
  | 0, x, i, h0, h1, h2 => ⟨_, Ev.step (f := fun _ => some (decide (x > 1024))) (fun k => by rw [thermographlaw18_large.l0, if_neg (by omega)]) (Ev.now _)⟩
  | d + 1, x, i, h0, h1, h2 => by
    by_cases h : x ≤ 1024
    · obtain ⟨r, hr⟩ := large_l0 V nodes shards hl d (wrap64 (x + (mn ((rd_L4 shards i).length : Int) 1048576))) (i + 1) (by omega) (by omega) (by omega)
      refine ⟨r, Ev.step (fun k => ?_) hr⟩
      rw [thermographlaw18_large.l0, if_pos (by omega), if_pos h, if_pos h0]
      have : wrap64 (i + 1) = i + 1 := by unfold wrap64; omega
      rw [this]
    · exact ⟨_, Ev.step (f := fun _ => some (decide (x > 1024))) (fun k => by rw [thermographlaw18_large.l0, if_pos (by omega), if_neg h]) (Ev.now _)⟩
theorem large_any (w : World) (V : Int) (An : Option Addr) (cn : Nat) (nodes : List Int) (As : Option Addr) (cs : Nat) (shards : List (List Ow)) (hP : Pl.PlAt w An cn nodes As cs shards) :
    ∃ r : Bool, Calls Try.prog 5 #[.agg #[.int .i64 V, .slice An nodes.length cn, .slice As shards.length cs]] w fun e w' => e = .returned (.bool r) ∧ Below w.heap.size w w' := by
  obtain ⟨r, hr⟩ := large_l0 V nodes shards hP.ls shards.length (wrap64 ((nodes.length : Int) + (shards.length : Int))) 0 (Int.le_refl _) (by omega) (by omega)
  have hf : Ev (fun k => thermographlaw18_large.f k V nodes shards) r := Ev.congr (fun k => by unfold thermographlaw18_large.f; rfl) hr
  obtain ⟨k, hk⟩ := hf.rounds
  exact ⟨r, thermographlaw18_large.calls k V An cn nodes As cs shards r w hP.hn hP.hcn hP.hs hP.hcs hk⟩
/-- Where there is no boot, both say why, and the same. -/
theorem news_err (V : Int) (An : Option Addr) (cn : Nat) (nodes : List Int) (As : Option Addr) (cs : Nat) (shards : List (List Ow)) (sh n : Int) (need : R) (h : ¬ (Pl.checkP V nodes shards = 0 ∧ Pl.ownsP shards sh n = true)) :
    ∃ er : Int, er ≠ 0 ∧ ∀ w, Pl.PlAt w An cn nodes As cs shards → (Calls Try.prog 6 #[.agg #[.int .i64 V, .slice An nodes.length cn, .slice As shards.length cs], .int .i64 sh, .int .i64 n, .agg #[.int .i64 need.f0, .int .i64 need.f1]] w fun e w' => e = .returned (.tuple #[.pointer none, .int .i64 er]) ∧ Below w.heap.size w w') ∧
      (Calls Try.prog 7 #[.agg #[.int .i64 V, .slice An nodes.length cn, .slice As shards.length cs], .int .i64 sh, .int .i64 n, .agg #[.int .i64 need.f0, .int .i64 need.f1]] w fun e w' => e = .returned (.tuple #[.pointer none, .int .i64 er]) ∧ Below w.heap.size w w') := by
  by_cases hc : Pl.checkP V nodes shards = 0
  · have ho : Pl.ownsP shards sh n = false := by
      rw [← Bool.not_eq_true]
      exact fun ho => h ⟨hc, ho⟩
    exact ⟨140, by decide, fun w hP => ⟨new_nodes w V An cn nodes As cs shards hP sh n need hc ho, rnew_nodes w V An cn nodes As cs shards hP sh n need hc ho⟩⟩
  · exact ⟨50, by decide, fun w hP => ⟨new_form w V An cn nodes As cs shards hP sh n need hc, rnew_form w V An cn nodes As cs shards hP sh n need hc⟩⟩
theorem R_empty {α : Type} {d : Kd α} {e : Nat} {w : World} {base gl : Nat} {ok : Nat → Prop} (h : w.heap[gl]? = some (.cells #[] e (0, 0))) (hb : base ≤ gl) (hok : ok gl) : d.R e w base ok (.slice (some ⟨gl, 0, none⟩) 0 0) [] :=
  ⟨fun k hk => by simp [Value.ownBlock] at hk; subst hk; exact hok, [], ⟨by simp, .inr ⟨gl, 0, #[], rfl, hb, h, Nat.le_refl _, Nat.zero_le _, by simp, by simp⟩⟩, Reps.none _ _⟩
set_option maxHeartbeats 4000000 in
set_option maxRecDepth 100000 in
theorem enough_err (w : World) (V : Int) (An : Option Addr) (cn : Nat) (nodes : List Int) (As : Option Addr) (cs : Nat) (shards : List (List Ow)) (hP : Pl.PlAt w An cn nodes As cs shards) (sh n : Int) (Ag : Option Addr) (cg : Nat) (gs : List Bool) (hG : Kd.C Kd.bool w Ag gs.length gs) (hcg : gs.length ≤ cg) (h : ¬ (Pl.checkP V nodes shards = 0 ∧ Pl.ownsP shards sh n = true)) :
    Calls Try.prog 3 #[.agg #[.int .i64 V, .slice An nodes.length cn, .slice As shards.length cs], .int .i64 sh, .int .i64 n, .slice Ag gs.length cg] w fun e w' => e = .returned (.bool true) ∧ Below w.heap.size w w' := by
  obtain ⟨er, her, hnw⟩ := news_err V An cn nodes As cs shards sh n ⟨5, 50⟩ h
  have HN := Lib.hid hnw
  have HP := Lib.hid hP
  have d1 : (er != 0) = true := bne_iff_ne.2 her
  clear h hP hG hnw her
  by_cases h3 : (gs.length : Int) < 3
  · have d0 : decide ((gs.length : Int) < 3) = true := decide_eq_true h3
    go_enter Try.func3, Try.ntmps3
    go_wp2_with ((with_reducible refine gate_dst (N := 4) rfl ?_); refine box_event rfl (N := 4) rfl (cs := #[.int .i64 V, .slice An nodes.length cn, .slice As shards.length cs]) (t := 25) ?hr ?_; (case hr => first | (go_simp; done) | (go_simp; rfl)); intro g4 hg4 X hbox hbX; have HX := Lib.hid hbX; have HG4 := Lib.hid hbox; have y0 : X.cell? ⟨g4, 0, none⟩ = some (.int .i64 V) := (blk_cell hbox 0).trans rfl; have y1 : X.cell? ⟨g4, 1, none⟩ = some (.slice An nodes.length cn) := (blk_cell hbox 1).trans rfl; have y2 : X.cell? ⟨g4, 2, none⟩ = some (.slice As shards.length cs) := (blk_cell hbox 2).trans rfl; clear hg4 hbox hbX)
    obtain ⟨r, hr⟩ := large_any X V An cn nodes As cs shards (HP.out.below HX.out)
    have HLG := Lib.hid hr
    clear hr
    with_reducible refine HLG.out.mono ?_
    rintro e w1 ⟨rfl, hb1⟩
    have HB1 := Lib.hid (below_then HX.out HX.out.size hb1)
    have HG41 := Lib.hid (blk_below HG4.out hb1)
    clear hb1 y0 y1 y2 HLG HG4
    cases r with
    | true =>
      go_wp2
      go_ret
      exact ⟨rfl, HB1.out⟩
    | false =>
      go_wp2
      go_ret
      exact ⟨rfl, HB1.out⟩
  · have d0 : decide ((gs.length : Int) < 3) = false := decide_eq_false h3
    go_enter Try.func3, Try.ntmps3
    go_wp2_with ((with_reducible refine gate_dst (N := 4) rfl ?_); refine box_event rfl (N := 4) rfl (cs := #[.int .i64 V, .slice An nodes.length cn, .slice As shards.length cs]) (t := 25) ?hr ?_; (case hr => first | (go_simp; done) | (go_simp; rfl)); intro g4 hg4 X hbox hbX; have HX := Lib.hid hbX; have HG4 := Lib.hid hbox; have y0 : X.cell? ⟨g4, 0, none⟩ = some (.int .i64 V) := (blk_cell hbox 0).trans rfl; have y1 : X.cell? ⟨g4, 1, none⟩ = some (.slice An nodes.length cn) := (blk_cell hbox 1).trans rfl; have y2 : X.cell? ⟨g4, 2, none⟩ = some (.slice As shards.length cs) := (blk_cell hbox 2).trans rfl; clear hg4 hbox hbX)
    obtain ⟨r, hr⟩ := large_any X V An cn nodes As cs shards (HP.out.below HX.out)
    have HLG := Lib.hid hr
    clear hr
    with_reducible refine HLG.out.mono ?_
    rintro e w1 ⟨rfl, hb1⟩
    have HB1 := Lib.hid (below_then HX.out HX.out.size hb1)
    have HG41 := Lib.hid (blk_below HG4.out hb1)
    clear hb1 y0 y1 y2 HLG HG4
    cases r with
    | true =>
      go_wp2
      go_ret
      exact ⟨rfl, HB1.out⟩
    | false =>
      have y0 : w1.cell? ⟨g4, 0, none⟩ = some (.int .i64 V) := (blk_cell HG41.out 0).trans rfl
      have y1 : w1.cell? ⟨g4, 1, none⟩ = some (.slice An nodes.length cn) := (blk_cell HG41.out 1).trans rfl
      have y2 : w1.cell? ⟨g4, 2, none⟩ = some (.slice As shards.length cs) := (blk_cell HG41.out 2).trans rfl
      have y3 : g4 < w1.heap.size := blk_lt HG41.out
      have HAL := Lib.hid (below_alloc (Below.refl w1.heap.size w1) (.cells #[.int .i64 5, .int .i64 50] 29))
      have HAQ := Lib.hid (blk_new w1 (.cells #[.int .i64 5, .int .i64 50] 29))
      go_wp2_with fail
      obtain ⟨g9, hg9⟩ : ∃ g9, g9 = w1.heap.size := ⟨_, rfl⟩
      obtain ⟨Y, hY⟩ : ∃ Y : World, Y = w1.alloc (.cells #[.int .i64 5, .int .i64 50] 29) := ⟨_, rfl⟩
      rw [← hY] at HAL HAQ
      rw [← hg9] at HAQ
      rw [← hY, ← hg9]
      have HBY := Lib.hid (below_then HB1.out HB1.out.size HAL.out)
      have HG4Y := Lib.hid (blk_below HG41.out HAL.out)
      clear hY hg9 y0 y1 y2 y3 HAL
      with_reducible refine (HN.out Y (HP.out.below HBY.out)).1.mono ?_
      rintro e w2 ⟨rfl, hb2⟩
      have HB2 := Lib.hid (below_then HBY.out HBY.out.size hb2)
      have HG42 := Lib.hid (blk_below HG4Y.out hb2)
      have HG92 := Lib.hid (blk_below HAQ.out hb2)
      have y0 : w2.cell? ⟨g4, 0, none⟩ = some (.int .i64 V) := (blk_cell HG42.out 0).trans rfl
      have y1 : w2.cell? ⟨g4, 1, none⟩ = some (.slice An nodes.length cn) := (blk_cell HG42.out 1).trans rfl
      have y2 : w2.cell? ⟨g4, 2, none⟩ = some (.slice As shards.length cs) := (blk_cell HG42.out 2).trans rfl
      have z0 : w2.cell? ⟨g9, 0, none⟩ = some (.int .i64 5) := (blk_cell HG92.out 0).trans rfl
      have z1 : w2.cell? ⟨g9, 1, none⟩ = some (.int .i64 50) := (blk_cell HG92.out 1).trans rfl
      clear hb2
      go_wp2_with fail
      with_reducible refine (HN.out w2 (HP.out.below HB2.out)).2.mono ?_
      rintro e w3 ⟨rfl, hb3⟩
      have HB3 := Lib.hid (below_then HB2.out HB2.out.size hb3)
      clear hb3 y0 y1 y2 z0 z1
      go_wp2
      go_ret
      exact ⟨by simp, HB3.out⟩
def bo (o : Ow) (A : List Int) (gv : Im) : Bo := ⟨o, A, gv, ⟨5, 50⟩, [⟨5, 50⟩], []⟩
theorem wf_bo {w : World} {An : Option Addr} {cn : Nat} {nodes : List Int} {As : Option Addr} {cs : Nat} {shards : List (List Ow)} (hP : Pl.PlAt w An cn nodes As cs shards) {l : List Ow} (hlm : l ∈ shards) {o : Ow} (ho : o ∈ l) (hlen : l.length ≤ 8) (n : Int) (gv : Im) : Wf (bo o (othersL l n) gv) := by
  refine ⟨(hP.wf l hlm o ho).1, fun x hx => ?_, ?_, by simp [bo]⟩
  · obtain ⟨y, hy, rfl⟩ := List.mem_map.1 hx
    exact (hP.wf l hlm y (List.mem_filter.1 hy).1).2
  · have : (othersL l n).length ≤ l.length := by unfold othersL; rw [List.length_map]; exact List.length_filter_le _ _
    show (othersL l n).length ≤ 1000000
    omega
set_option maxHeartbeats 4000000 in
set_option maxRecDepth 100000 in
theorem enough_not (w : World) (V : Int) (An : Option Addr) (cn : Nat) (nodes : List Int) (As : Option Addr) (cs : Nat) (shards : List (List Ow)) (hP : Pl.PlAt w An cn nodes As cs shards) (sh n : Int) (Ag : Option Addr) (cg : Nat) (gs : List Bool) (hG : Kd.C Kd.bool w Ag gs.length gs) (hcg : gs.length ≤ cg) (hc : Pl.checkP V nodes shards = 0) (ho : Pl.ownsP shards sh n = true) (hs : (Pl.findP shards sh n).1.f1 ≠ 1) :
    Calls Try.prog 3 #[.agg #[.int .i64 V, .slice An nodes.length cn, .slice As shards.length cs], .int .i64 sh, .int .i64 n, .slice Ag gs.length cg] w fun e w' => e = .returned (.bool true) ∧ Below w.heap.size w w' := by
  obtain ⟨⟨o, is⟩, hfe⟩ : ∃ q : Ow × Bool, Pl.findP shards sh n = q := ⟨_, rfl⟩
  have ho2 := ho
  unfold Pl.ownsP at ho2
  rw [hfe, Bool.and_eq_true] at ho2
  obtain ⟨his, _⟩ := ho2
  dsimp only at his
  subst his
  obtain ⟨h0', h1, hlm, hol, hon⟩ := Pl.find_mem (shards := shards) (sh := sh) (n := n) (by rw [hfe])
  rw [hfe] at hol hon hs
  dsimp only at hol hon hs
  obtain ⟨l, hl⟩ : ∃ l, rd_L4 shards sh = l := ⟨_, rfl⟩
  rw [hl] at hlm hol
  have hrf := Pl.check_right hc hlm
  have hlen := hrf.len
  have HWF := Lib.hid (fun gv => wf_bo hP hlm hol hlen n gv)
  have HL := Lib.hid hl
  have HC := Lib.hid hc
  have HO := Lib.hid ho
  have HP := Lib.hid hP
  have HFE := Lib.hid hfe
  have HG := Lib.hid hG
  have HRF := Lib.hid hrf
  have HOL := Lib.hid hol
  have HON := Lib.hid hon
  clear hc ho hP hfe hG hl hlm hrf hol hon
  have d5 : (o.f1 != 1) = true := bne_iff_ne.2 hs
  have HWE := Lib.hid (show wantsOf (bo o (othersL l n) []) = [] by unfold wantsOf; exact if_pos (Or.inr hs))
  have HLE := Lib.hid (show leftOf (bo o (othersL l n) []) = [⟨5, 50⟩] by unfold leftOf; exact if_neg (fun h => hs h.1))
  clear hs
  by_cases h3 : (gs.length : Int) < 3
  · have d0 : decide ((gs.length : Int) < 3) = true := decide_eq_true h3
    go_enter Try.func3, Try.ntmps3
    go_wp2_with ((with_reducible refine gate_dst (N := 4) rfl ?_); refine box_event rfl (N := 4) rfl (cs := #[.int .i64 V, .slice An nodes.length cn, .slice As shards.length cs]) (t := 25) ?hr ?_; (case hr => first | (go_simp; done) | (go_simp; rfl)); intro g4 hg4 X hbox hbX; have HX := Lib.hid hbX; have HG4 := Lib.hid hbox; have y0 : X.cell? ⟨g4, 0, none⟩ = some (.int .i64 V) := (blk_cell hbox 0).trans rfl; have y1 : X.cell? ⟨g4, 1, none⟩ = some (.slice An nodes.length cn) := (blk_cell hbox 1).trans rfl; have y2 : X.cell? ⟨g4, 2, none⟩ = some (.slice As shards.length cs) := (blk_cell hbox 2).trans rfl; clear hg4 hbox hbX)
    obtain ⟨r, hr⟩ := large_any X V An cn nodes As cs shards (HP.out.below HX.out)
    have HLG := Lib.hid hr
    clear hr
    with_reducible refine HLG.out.mono ?_
    rintro e w1 ⟨rfl, hb1⟩
    have HB1 := Lib.hid (below_then HX.out HX.out.size hb1)
    have HG41 := Lib.hid (blk_below HG4.out hb1)
    clear hb1 y0 y1 y2 HLG HG4
    cases r with
    | true =>
      go_wp2
      go_ret
      exact ⟨rfl, HB1.out⟩
    | false =>
      go_wp2
      go_ret
      exact ⟨rfl, HB1.out⟩
  have d0 : decide ((gs.length : Int) < 3) = false := decide_eq_false h3
  go_enter Try.func3, Try.ntmps3
  go_wp2_with ((with_reducible refine gate_dst (N := 4) rfl ?_); refine box_event rfl (N := 4) rfl (cs := #[.int .i64 V, .slice An nodes.length cn, .slice As shards.length cs]) (t := 25) ?hr ?_; (case hr => first | (go_simp; done) | (go_simp; rfl)); intro g4 hg4 X hbox hbX; have HX := Lib.hid hbX; have HG4 := Lib.hid hbox; have y0 : X.cell? ⟨g4, 0, none⟩ = some (.int .i64 V) := (blk_cell hbox 0).trans rfl; have y1 : X.cell? ⟨g4, 1, none⟩ = some (.slice An nodes.length cn) := (blk_cell hbox 1).trans rfl; have y2 : X.cell? ⟨g4, 2, none⟩ = some (.slice As shards.length cs) := (blk_cell hbox 2).trans rfl; clear hg4 hbox hbX)
  obtain ⟨r, hr⟩ := large_any X V An cn nodes As cs shards (HP.out.below HX.out)
  have HLG := Lib.hid hr
  clear hr
  with_reducible refine HLG.out.mono ?_
  rintro e w1 ⟨rfl, hb1⟩
  have HB1 := Lib.hid (below_then HX.out HX.out.size hb1)
  have HG41 := Lib.hid (blk_below HG4.out hb1)
  clear hb1 y0 y1 y2 HLG HG4
  cases r with
  | true =>
    go_wp2
    go_ret
    exact ⟨rfl, HB1.out⟩
  | false =>
    have y0 : w1.cell? ⟨g4, 0, none⟩ = some (.int .i64 V) := (blk_cell HG41.out 0).trans rfl
    have y1 : w1.cell? ⟨g4, 1, none⟩ = some (.slice An nodes.length cn) := (blk_cell HG41.out 1).trans rfl
    have y2 : w1.cell? ⟨g4, 2, none⟩ = some (.slice As shards.length cs) := (blk_cell HG41.out 2).trans rfl
    have y3 : g4 < w1.heap.size := blk_lt HG41.out
    have HAL := Lib.hid (below_alloc (Below.refl w1.heap.size w1) (.cells #[.int .i64 5, .int .i64 50] 29))
    have HAQ := Lib.hid (blk_new w1 (.cells #[.int .i64 5, .int .i64 50] 29))
    go_wp2_with fail
    obtain ⟨g9, hg9⟩ : ∃ g9, g9 = w1.heap.size := ⟨_, rfl⟩
    obtain ⟨Y, hY⟩ : ∃ Y : World, Y = w1.alloc (.cells #[.int .i64 5, .int .i64 50] 29) := ⟨_, rfl⟩
    rw [← hY] at HAL HAQ
    rw [← hg9] at HAQ
    rw [← hY, ← hg9]
    have HBY := Lib.hid (below_then HB1.out HB1.out.size HAL.out)
    have HG4Y := Lib.hid (blk_below HG41.out HAL.out)
    clear hY hg9 y0 y1 y2 y3 HAL
    have HNW := Lib.hid (new_ok Y V An cn nodes As cs shards (HP.out.below HBY.out) sh n ⟨5, 50⟩ HC.out HO.out)
    rw [HFE.out, HL.out] at HNW
    with_reducible refine HNW.out.mono ?_
    rintro e w2 ⟨g, gm, gp, vO, vL, rfl, hIs, hb2⟩
    have HIS2 := Lib.hid (show Is w2 Y.heap.size g gm gp vO vL (bo o (othersL l n) []) from hIs)
    have HB2 := Lib.hid (below_then HBY.out HBY.out.size hb2)
    have HG42 := Lib.hid (blk_below HG4Y.out hb2)
    have HG92 := Lib.hid (blk_below HAQ.out hb2)
    have y0 : w2.cell? ⟨g4, 0, none⟩ = some (.int .i64 V) := (blk_cell HG42.out 0).trans rfl
    have y1 : w2.cell? ⟨g4, 1, none⟩ = some (.slice An nodes.length cn) := (blk_cell HG42.out 1).trans rfl
    have y2 : w2.cell? ⟨g4, 2, none⟩ = some (.slice As shards.length cs) := (blk_cell HG42.out 2).trans rfl
    have z0 : w2.cell? ⟨g9, 0, none⟩ = some (.int .i64 5) := (blk_cell HG92.out 0).trans rfl
    have z1 : w2.cell? ⟨g9, 1, none⟩ = some (.int .i64 50) := (blk_cell HG92.out 1).trans rfl
    clear hIs hb2 HNW
    go_wp2_with fail
    have HRW := Lib.hid (rnew_ok w2 V An cn nodes As cs shards (HP.out.below HB2.out) sh n ⟨5, 50⟩ HC.out HO.out)
    with_reducible refine HRW.out.mono ?_
    rintro e w3 ⟨gr, vR, rfl, _, hb3⟩
    have HIS3 := Lib.hid (HIS2.out.below hb3)
    have HB3 := Lib.hid (below_then HB2.out HB2.out.size hb3)
    have HG43 := Lib.hid (blk_below HG42.out hb3)
    clear hb3 y0 y1 y2 z0 z1 HRW HG42 HIS2
    have y0 : w3.cell? ⟨g4, 0, none⟩ = some (.int .i64 V) := (blk_cell HG43.out 0).trans rfl
    have y1 : w3.cell? ⟨g4, 1, none⟩ = some (.slice An nodes.length cn) := (blk_cell HG43.out 1).trans rfl
    have y2 : w3.cell? ⟨g4, 2, none⟩ = some (.slice As shards.length cs) := (blk_cell HG43.out 2).trans rfl
    go_wp2_with fail
    have HFD := Lib.hid (Pl.rfind_calls w3 V An cn nodes As cs shards (HP.out.below HB3.out) sh n)
    rw [HFE.out] at HFD
    with_reducible refine HFD.out.mono ?_
    rintro e w4 ⟨rfl, hb4⟩
    unfold Pl.aggO
    have HIS4 := Lib.hid (HIS3.out.below hb4)
    have HB4 := Lib.hid (below_then HB3.out HB3.out.size hb4)
    have HG44 := Lib.hid (blk_below HG43.out hb4)
    clear hb4 y0 y1 y2 HFD HG43 HIS3
    have HAZ := Lib.hid (below_alloc (Below.refl w4.heap.size w4) (.cells #[.int .i64 o.f0, .int .i64 o.f1, .int .i64 o.f2] 38))
    have HAB := Lib.hid (blk_new w4 (.cells #[.int .i64 o.f0, .int .i64 o.f1, .int .i64 o.f2] 38))
    go_wp2_with fail
    obtain ⟨gb, hgb⟩ : ∃ gb, gb = w4.heap.size := ⟨_, rfl⟩
    obtain ⟨Z, hZ⟩ : ∃ Z : World, Z = w4.alloc (.cells #[.int .i64 o.f0, .int .i64 o.f1, .int .i64 o.f2] 38) := ⟨_, rfl⟩
    rw [← hZ] at HAZ HAB
    rw [← hgb] at HAB
    rw [← hZ, ← hgb]
    have HISZ := Lib.hid (HIS4.out.below HAZ.out)
    have HBZ := Lib.hid (below_then HB4.out HB4.out.size HAZ.out)
    have HG4Z := Lib.hid (blk_below HG44.out HAZ.out)
    clear hZ hgb HAZ HIS4 HG44
    have HWN := Lib.hid (wants_calls Z Y.heap.size g gm gp vO vL _ HISZ.out (HWF.out []))
    rw [HWE.out] at HWN
    with_reducible refine HWN.out.mono ?_
    rintro e w5 ⟨v5, rfl, hR5, hb5⟩
    obtain ⟨A5, c5, rfl⟩ := Kd.R_slice hR5
    have HIS5 := Lib.hid (HISZ.out.below hb5)
    have HB5 := Lib.hid (below_then HBZ.out HBZ.out.size hb5)
    clear hb5 hR5 HWN
    go_wp2_with fail
    have HLN := Lib.hid (left_calls w5 Y.heap.size g gm gp vO vL _ HIS5.out (HWF.out []))
    rw [HLE.out] at HLN
    with_reducible refine HLN.out.mono ?_
    rintro e w6 ⟨v6, rfl, hR6, hb6⟩
    obtain ⟨A6, c6, rfl⟩ := Kd.R_slice hR6
    have HB6 := Lib.hid (below_then HB5.out HB5.out.size hb6)
    clear hb6 hR6 HLN
    go_wp2
    go_ret
    exact ⟨rfl, HB6.out⟩
end Bt
end Go.Proofs.Ytiinmagnpkfbbaa
