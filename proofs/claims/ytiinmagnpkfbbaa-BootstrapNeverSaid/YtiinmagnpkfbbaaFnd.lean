/- placement.Find and the document's Find, Owns: one answer. -/
import Derived.Test.YtiinmagnpkfbbaaChk
namespace Go.Proofs.Ytiinmagnpkfbbaa
set_option linter.unusedVariables false
set_option linter.unusedSimpArgs false
open Go.RowKit Go.Proofs.YtiinmagnpkfbbaaW.PrintWords Go.Proofs.YtiinmagnpkfbbaaW.PrintLast Go.Proofs.YtiinmagnpkfbbaaW.PrintMore Go.Proofs.Ytiinmagnpkfbbaa.QT
namespace Pl
def cells3 (o : Ow) : Array Value := #[.int .i64 o.f0, .int .i64 o.f1, .int .i64 o.f2]
def aggO (o : Ow) : Value := .agg #[.int .i64 o.f0, .int .i64 o.f1, .int .i64 o.f2]
/-- Who has the node's number among a shard's owners. -/
def findL (l : List Ow) (n : Int) : Ow × Bool := if ix (at_ n) l < 0 then (z38, false) else (rd_T38 l (ix (at_ n) l), true)
def findP (shards : List (List Ow)) (sh n : Int) : Ow × Bool := if 0 ≤ sh ∧ sh < shards.length then findL (rd_L4 shards sh) n else (z38, false)
def put3 (w : World) (g : Nat) (a b c : Value) : World := ((w.setCell ⟨g, 0, none⟩ a).setCell ⟨g, 1, none⟩ b).setCell ⟨g, 2, none⟩ c
theorem put3_blk {w : World} {g : Nat} {t : TypeId} {a0 a1 a2 a b c : Value} (h : w.heap[g]? = some (.cells #[a0, a1, a2] t (0, 0))) : (put3 w g a b c).heap[g]? = some (.cells #[a, b, c] t (0, 0)) := by
  have h0 := blk_set h 0 a
  have h1 := blk_set h0 1 b
  have h2 := blk_set h1 2 c
  unfold put3
  simpa using h2
theorem put3_below {w0 w : World} {B g : Nat} (h : Below B w0 w) (hg : B ≤ g) (a b c : Value) : Below B w0 (put3 w g a b c) := ((h.setCell hg _).setCell hg _).setCell hg _
set_option maxHeartbeats 9223372036854775807 in
set_option maxRecDepth 100000 in
theorem find_calls (w : World) (V : Int) (An : Option Addr) (cn : Nat) (nodes : List Int) (As : Option Addr) (cs : Nat) (shards : List (List Ow)) (hP : PlAt w An cn nodes As cs shards) (sh n : Int) :
    Calls Try.prog 15 #[.agg #[.int .i64 V, .slice An nodes.length cn, .slice As shards.length cs], .int .i64 sh, .int .i64 n] w fun e w' => e = .returned (.tuple #[aggO (findP shards sh n).1, .bool (findP shards sh n).2]) ∧ Below w.heap.size w w' := by
  by_cases h0 : sh < 0
  case pos =>
    have d0 : decide (sh < 0) = true := decide_eq_true h0
    have HE := Lib.hid (show findP shards sh n = (z38, false) by unfold findP; rw [if_neg (by omega)])
    go_enter Try.func15, Try.ntmps15
    go_wp2_with (first
      | ((with_reducible refine gate_dst (N := 3) rfl ?_); refine box_event rfl (N := 3) rfl (cs := #[.int .i64 V, .slice An nodes.length cn, .slice As shards.length cs]) (t := 25) ?hr ?_; (case hr => first | (go_simp; done) | (go_simp; rfl)); intro gp hgp X hbox hbX; have HX := Lib.hid (And.intro hgp (And.intro hbox hbX)); have p2 : X.cell? ⟨gp, 2, none⟩ = some (.slice As shards.length cs) := (blk_cell hbox 2).trans rfl; clear hgp hbox hbX)
      | ((with_reducible refine gate_dst (N := 6) rfl ?_); refine box_event rfl (N := 6) rfl (cs := #[.int .i64 0, .int .i64 0, .int .i64 0]) (t := 38) ?hr ?_; (case hr => first | (go_simp; done) | (go_simp; rfl)); intro gb hgb Y hboy hbY; have HY := Lib.hid (And.intro hgb (And.intro hboy hbY)); have y2 : Y.cell? ⟨gp, 2, none⟩ = some (.slice As shards.length cs) := (blk_cell (blk_below HX.out.2.1 hbY) 2).trans rfl; have y0' : Y.frozen? ⟨gb, 0, none⟩ = false := blk_frozen hboy 0; have y1' : Y.frozen? ⟨gb, 1, none⟩ = false := blk_frozen hboy 1; have y2' : Y.frozen? ⟨gb, 2, none⟩ = false := blk_frozen hboy 2; have u0 : Y.cell? ⟨gb, 0, none⟩ = some (.int .i64 0) := (blk_cell hboy 0).trans rfl; have u1 : Y.cell? ⟨gb, 1, none⟩ = some (.int .i64 0) := (blk_cell hboy 1).trans rfl; have u2 : Y.cell? ⟨gb, 2, none⟩ = some (.int .i64 0) := (blk_cell hboy 2).trans rfl; clear hgb hboy hbY p2))
    refine bodyPost_ret (results_ct rfl _ _ gb 38 #[.int .i64 0, .int .i64 0, .int .i64 0] (0, 0) _ rfl ?hblk Try.underlying38 rfl (by kernel_rfl)) rfl ?_
    case hblk => exact put3_blk (HY.out.2.1)
    rw [HE.out]
    exact ⟨rfl, put3_below ((below_then HX.out.2.2 HX.out.2.2.size HY.out.2.2)) (by have h1 := HX.out; have h2 := HY.out; have := h1.2.2.size; omega) _ _ _⟩
  have d0 : decide (sh < 0) = false := decide_eq_false h0
  by_cases h1 : sh < (shards.length : Int)
  case neg =>
    have d1 : decide (sh ≥ (shards.length : Int)) = true := decide_eq_true (by omega)
    have d2 : decide ((shards.length : Int) ≤ sh) = true := decide_eq_true (by omega)
    have HE := Lib.hid (show findP shards sh n = (z38, false) by unfold findP; rw [if_neg (by omega)])
    go_enter Try.func15, Try.ntmps15
    go_wp2_with (first
      | ((with_reducible refine gate_dst (N := 3) rfl ?_); refine box_event rfl (N := 3) rfl (cs := #[.int .i64 V, .slice An nodes.length cn, .slice As shards.length cs]) (t := 25) ?hr ?_; (case hr => first | (go_simp; done) | (go_simp; rfl)); intro gp hgp X hbox hbX; have HX := Lib.hid (And.intro hgp (And.intro hbox hbX)); have p2 : X.cell? ⟨gp, 2, none⟩ = some (.slice As shards.length cs) := (blk_cell hbox 2).trans rfl; clear hgp hbox hbX)
      | ((with_reducible refine gate_dst (N := 6) rfl ?_); refine box_event rfl (N := 6) rfl (cs := #[.int .i64 0, .int .i64 0, .int .i64 0]) (t := 38) ?hr ?_; (case hr => first | (go_simp; done) | (go_simp; rfl)); intro gb hgb Y hboy hbY; have HY := Lib.hid (And.intro hgb (And.intro hboy hbY)); have y2 : Y.cell? ⟨gp, 2, none⟩ = some (.slice As shards.length cs) := (blk_cell (blk_below HX.out.2.1 hbY) 2).trans rfl; have y0' : Y.frozen? ⟨gb, 0, none⟩ = false := blk_frozen hboy 0; have y1' : Y.frozen? ⟨gb, 1, none⟩ = false := blk_frozen hboy 1; have y2' : Y.frozen? ⟨gb, 2, none⟩ = false := blk_frozen hboy 2; have u0 : Y.cell? ⟨gb, 0, none⟩ = some (.int .i64 0) := (blk_cell hboy 0).trans rfl; have u1 : Y.cell? ⟨gb, 1, none⟩ = some (.int .i64 0) := (blk_cell hboy 1).trans rfl; have u2 : Y.cell? ⟨gb, 2, none⟩ = some (.int .i64 0) := (blk_cell hboy 2).trans rfl; clear hgb hboy hbY p2))
    refine bodyPost_ret (results_ct rfl _ _ gb 38 #[.int .i64 0, .int .i64 0, .int .i64 0] (0, 0) _ rfl ?hblk Try.underlying38 rfl (by kernel_rfl)) rfl ?_
    case hblk => exact put3_blk (HY.out.2.1)
    rw [HE.out]
    exact ⟨rfl, put3_below ((below_then HX.out.2.2 HX.out.2.2.size HY.out.2.2)) (by have h1 := HX.out; have h2 := HY.out; have := h1.2.2.size; omega) _ _ _⟩
  have d1 : decide (sh ≥ (shards.length : Int)) = false := decide_eq_false (by omega)
  have d2 : decide ((shards.length : Int) ≤ sh) = false := decide_eq_false (by omega)
  have h0' : 0 ≤ sh := by omega
  obtain ⟨l, hl⟩ : ∃ l, rd_L4 shards sh = l := ⟨_, rfl⟩
  have hlm : l ∈ shards := by
    rw [← hl]
    have : sh.toNat < shards.length := by omega
    unfold rd_L4
    rw [List.getD_eq_getElem?_getD, List.getElem?_eq_getElem this]
    exact List.getElem_mem this
  have HLL := Lib.hid (hP.lsh l hlm)
  have HE0 := Lib.hid (show findP shards sh n = findL l n by unfold findP; rw [if_pos ⟨h0', h1⟩, hl])
  have HL := Lib.hid hl
  have HP := Lib.hid hP
  clear hl hlm hP
  obtain ⟨k0, hk0⟩ : ∃ k0, ix (at_ n) l = k0 := ⟨_, rfl⟩
  have hkr := ix_range (at_ n) l
  rw [hk0] at hkr
  have HK0 := Lib.hid hk0
  clear hk0
  have cell : ∀ W : World, Below w.heap.size w W → ∃ ad A1 c1, As = some ad ∧ W.cell? (ad.add sh.toNat) = some (.slice A1 l.length c1) ∧ Kd.C k38 W A1 l.length l := by
    intro W hW
    obtain ⟨ad, A1, c1, ead, q0, hc1, hC1⟩ := at_L4 (HP.out.below hW).hs sh h0' h1
    rw [HL.out] at q0 hC1
    exact ⟨ad, A1, c1, ead, q0, hC1⟩
  have HCELL := Lib.hid cell
  obtain ⟨ad, A1, c1, ead, q0, hC1⟩ := cell w (Below.refl _ _)
  cases ead
  have HQ0 := Lib.hid q0
  have HC1 := Lib.hid hC1
  clear q0 hC1 cell HCELL
  go_enter Try.func15, Try.ntmps15
  go_wp2_with (first
    | ((with_reducible refine gate_dst (N := 3) rfl ?_); refine box_event rfl (N := 3) rfl (cs := #[.int .i64 V, .slice An nodes.length cn, .slice (some ad) shards.length cs]) (t := 25) ?hr ?_; (case hr => first | (go_simp; done) | (go_simp; rfl)); intro gp hgp X hbox hbX; have HX := Lib.hid (And.intro hgp (And.intro hbox hbX)); have p2 : X.cell? ⟨gp, 2, none⟩ = some (.slice (some ad) shards.length cs) := (blk_cell hbox 2).trans rfl; clear hgp hbox hbX)
    | ((with_reducible refine gate_dst (N := 6) rfl ?_); refine box_event rfl (N := 6) rfl (cs := #[.int .i64 0, .int .i64 0, .int .i64 0]) (t := 38) ?hr ?_; (case hr => first | (go_simp; done) | (go_simp; rfl)); intro gb hgb Y hboy hbY; have HY := Lib.hid (And.intro hgb (And.intro hboy hbY)); have y2 : Y.cell? ⟨gp, 2, none⟩ = some (.slice (some ad) shards.length cs) := (blk_cell (blk_below HX.out.2.1 hbY) 2).trans rfl; have q1 := pw_cell_below (below_then HX.out.2.2 HX.out.2.2.size hbY) HQ0.out; clear hgb hboy hbY p2))
  have HBY := Lib.hid (below_then HX.out.2.2 HX.out.2.2.size HY.out.2.2)
  have HOW := Lib.hid (owner_calls Y A1 c1 l (Kd.C_below HC1.out HBY.out) HLL.out n)
  with_reducible refine HOW.out.mono ?_
  rintro e w5 ⟨rfl, hb5⟩
  rw [HK0.out]
  have HB5 := Lib.hid (below_then HBY.out HBY.out.size hb5)
  have HG5 := Lib.hid (blk_below HY.out.2.1 hb5)
  have y2' : w5.cell? ⟨gp, 2, none⟩ = some (.slice (some ad) shards.length cs) := pw_cell_below hb5 y2
  have q2 : w5.cell? (ad.add sh.toNat) = some (.slice A1 l.length c1) := pw_cell_below HB5.out HQ0.out
  have f0 : w5.frozen? ⟨gb, 0, none⟩ = false := blk_frozen HG5.out 0
  have f1 : w5.frozen? ⟨gb, 1, none⟩ = false := blk_frozen HG5.out 1
  have f2 : w5.frozen? ⟨gb, 2, none⟩ = false := blk_frozen HG5.out 2
  have u0 : w5.cell? ⟨gb, 0, none⟩ = some (.int .i64 0) := (blk_cell HG5.out 0).trans rfl
  have u1 : w5.cell? ⟨gb, 1, none⟩ = some (.int .i64 0) := (blk_cell HG5.out 1).trans rfl
  have u2 : w5.cell? ⟨gb, 2, none⟩ = some (.int .i64 0) := (blk_cell HG5.out 2).trans rfl
  clear hb5 HOW y2 q1
  by_cases hk : k0 < 0
  · have HE := Lib.hid (show findP shards sh n = (z38, false) by rw [HE0.out]; unfold findL; rw [HK0.out, if_pos hk])
    go_wp2
    refine bodyPost_ret (results_ct rfl _ _ gb 38 #[.int .i64 0, .int .i64 0, .int .i64 0] (0, 0) _ rfl ?hblk Try.underlying38 rfl (by kernel_rfl)) rfl ?_
    case hblk => exact put3_blk (HG5.out)
    rw [HE.out]
    exact ⟨rfl, put3_below (HB5.out) (by have h1 := HX.out; have h2 := HY.out; have := h1.2.2.size; omega) _ _ _⟩
  · have hk' : 0 ≤ k0 := by omega
    have hkl : k0 < (l.length : Int) := by omega
    obtain ⟨ad2, ead, r0, r1, r2⟩ := at_T38 (Kd.C_below HC1.out HB5.out) k0 hk' hkl
    cases ead
    obtain ⟨o, ho⟩ : ∃ o, rd_T38 l k0 = o := ⟨_, rfl⟩
    rw [ho] at r0 r1 r2
    have HE := Lib.hid (show findP shards sh n = (o, true) by rw [HE0.out]; unfold findL; rw [HK0.out, if_neg hk, ho])
    clear ho
    go_wp2
    refine bodyPost_ret (results_ct rfl _ _ gb 38 #[.int .i64 o.f0, .int .i64 o.f1, .int .i64 o.f2] (0, 0) _ rfl ?hblk Try.underlying38 rfl (by kernel_rfl)) rfl ?_
    case hblk => exact put3_blk (HG5.out)
    rw [HE.out]
    exact ⟨rfl, put3_below (HB5.out) (by have h1 := HX.out; have h2 := HY.out; have := h1.2.2.size; omega) _ _ _⟩
theorem rfind_l0 (n : Int) (l : List Ow) (hl : l.length ≤ 9223372036854775807) : ∀ (R P : List Ow), l = P ++ R → (∀ x ∈ P, at_ n x = false) → Ev (fun k => thermographref14_Find.l0 k n l (P.length : Int)) ((findL l n).1.f0, (findL l n).1.f1, (findL l n).1.f2, (findL l n).2)
  | [], P, h, hp => by
    rw [List.append_nil] at h
    subst h
    have : findL l n = (z38, false) := by
      unfold findL
      rw [if_pos]
      by_cases h : ix (at_ n) l < 0
      · exact h
      · obtain ⟨x, hx, h2⟩ := ix_some (p := at_ n) (l := l) h
        rw [hp x hx] at h2
        cases h2
    rw [this]
    refine Ev.step (f := fun _ => some _) (fun k => ?_) (Ev.now _)
    rw [thermographref14_Find.l0, if_neg (by omega)]
    rfl
  | x :: R, P, h, hp => by
    have hll : l.length = P.length + R.length + 1 := by rw [h]; simp; omega
    have e : rd_T38 l (P.length : Int) = x := by rw [h]; exact rd38_mid P R x _ rfl
    by_cases hx : x.f0 = n
    · have hix : ix (at_ n) l = (P.length : Int) := by
        unfold ix
        have key : ∀ (Q : List Ow) (i : Nat), (∀ y ∈ Q, at_ n y = false) → ixFrom (at_ n) (Q ++ x :: R) i = ((i + Q.length : Nat) : Int) := by
          intro Q
          induction Q with
          | nil => intro i _; simp only [List.nil_append, ixFrom]; rw [if_pos (by unfold at_; simpa using hx)]; simp
          | cons y Q ih =>
            intro i hq
            rw [List.cons_append, ixFrom, if_neg (by rw [hq y List.mem_cons_self]; simp), ih (i + 1) (fun z hz => hq z (List.mem_cons_of_mem _ hz))]
            congr 1
            rw [List.length_cons]; omega
        rw [h, key P 0 hp, Nat.zero_add]
      have : findL l n = (x, true) := by unfold findL; rw [hix, if_neg (by omega), e]
      rw [this]
      refine Ev.step (f := fun _ => some _) (fun k => ?_) (Ev.now _)
      rw [thermographref14_Find.l0, if_pos (by omega), if_pos (by omega), e, if_pos hx]
    · have ih := rfind_l0 n l hl R (P ++ [x]) (by rw [h]; simp) (fun y hy => by
        rcases List.mem_append.1 hy with hy | hy
        · exact hp y hy
        · rw [List.mem_singleton.1 hy]; unfold at_; simpa using hx)
      rw [List.length_append, List.length_singleton] at ih
      refine Ev.step (fun k => ?_) ih
      rw [thermographref14_Find.l0, if_pos (by omega), if_pos (by omega), e, if_neg hx, w1 _ (by omega)]
theorem rfind_ev (V : Int) (nodes : List Int) (shards : List (List Ow)) (hl : ∀ l ∈ shards, l.length ≤ 9223372036854775807) (sh n : Int) : Ev (fun k => thermographref14_Find.f k V nodes shards sh n) ((findP shards sh n).1.f0, (findP shards sh n).1.f1, (findP shards sh n).1.f2, (findP shards sh n).2) := by
  have bad : findP shards sh n = (z38, false) → Ev (fun k => thermographref14_Find.j0 k sh n true V nodes shards) ((findP shards sh n).1.f0, (findP shards sh n).1.f1, (findP shards sh n).1.f2, (findP shards sh n).2) := fun h => by
    rw [h]
    refine Ev.step (f := fun _ => some _) (fun k => ?_) (Ev.now _)
    rw [thermographref14_Find.j0, if_pos rfl]
    rfl
  unfold thermographref14_Find.f
  by_cases h0 : sh < 0
  · exact Ev.congr (fun k => by rw [if_pos h0]) (bad (by unfold findP; rw [if_neg (by omega)]))
  · by_cases h1 : sh ≥ (shards.length : Int)
    · exact Ev.congr (fun k => by rw [if_neg h0, decide_eq_true h1]) (bad (by unfold findP; rw [if_neg (by omega)]))
    · have hlm : rd_L4 shards sh ∈ shards := by
        have : sh.toNat < shards.length := by omega
        unfold rd_L4
        rw [List.getD_eq_getElem?_getD, List.getElem?_eq_getElem this]
        exact List.getElem_mem this
      have h := rfind_l0 n (rd_L4 shards sh) (hl _ hlm) _ [] rfl (by simp)
      have e : findP shards sh n = findL (rd_L4 shards sh) n := by unfold findP; rw [if_pos ⟨by omega, by omega⟩]
      rw [e]
      refine Ev.congr (f := fun k => thermographref14_Find.j0 k sh n false V nodes shards) (fun k => by rw [if_neg h0, decide_eq_false h1]) (Ev.step (fun k => ?_) h)
      rw [thermographref14_Find.j0, if_neg (by simp), if_pos (by omega), if_pos (by omega)]
      rfl
theorem rfind_calls (w : World) (V : Int) (An : Option Addr) (cn : Nat) (nodes : List Int) (As : Option Addr) (cs : Nat) (shards : List (List Ow)) (hP : PlAt w An cn nodes As cs shards) (sh n : Int) :
    Calls Try.prog 8 #[.agg #[.int .i64 V, .slice An nodes.length cn, .slice As shards.length cs], .int .i64 sh, .int .i64 n] w fun e w' => e = .returned (.tuple #[aggO (findP shards sh n).1, .bool (findP shards sh n).2]) ∧ Below w.heap.size w w' := by
  obtain ⟨k, hk⟩ := (rfind_ev V nodes shards hP.lsh sh n).rounds
  exact thermographref14_Find.calls k V An cn nodes As cs shards sh n _ _ _ _ w hP.hn hP.hcn hP.hs hP.hcs hk
def ownsP (shards : List (List Ow)) (sh n : Int) : Bool := (findP shards sh n).2 && ((findP shards sh n).1.f1 != 3)
theorem rowns_calls (w : World) (V : Int) (An : Option Addr) (cn : Nat) (nodes : List Int) (As : Option Addr) (cs : Nat) (shards : List (List Ow)) (hP : PlAt w An cn nodes As cs shards) (sh n : Int) :
    Calls Try.prog 19 #[.agg #[.int .i64 V, .slice An nodes.length cn, .slice As shards.length cs], .int .i64 sh, .int .i64 n] w fun e w' => e = .returned (.bool (ownsP shards sh n)) ∧ Below w.heap.size w w' := by
  have h := rfind_ev V nodes shards hP.lsh sh n
  have h2 : Ev (fun k => thermographref14_Owns.f k V nodes shards sh n) (ownsP shards sh n) := by
    refine Ev.congr (fun k => ?_) (Ev.bind (f := fun _ (bt127 : Int × Int × Int × Bool) => if bt127.2.2.2 = true then some (bt127.2.1 != 3) else some false) h (Ev.congr (f := fun _ => some (ownsP shards sh n)) (fun k => ?_) (Ev.now _)))
    · unfold thermographref14_Owns.f; rfl
    · unfold ownsP
      dsimp only
      cases (findP shards sh n).2 with
      | true => rw [if_pos rfl, Bool.true_and]
      | false => rw [if_neg (by simp), Bool.false_and]
  obtain ⟨k, hk⟩ := h2.rounds
  exact thermographref14_Owns.calls k V An cn nodes As cs shards sh n _ w hP.hn hP.hcn hP.hs hP.hcs hk
end Pl
end Go.Proofs.Ytiinmagnpkfbbaa
