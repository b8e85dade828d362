/- The boots: Left, Done. -/
import Derived.Test.YtiinmagnpkfbbaaGreatChk
import Derived.Test.YtiinmagnpkfbbaaGreatNormal
section
set_option maxHeartbeats 9223372036854775807
set_option maxRecDepth 100000
namespace Go.Proofs.YtiinmagnpkfbbaaGreat
set_option linter.unusedVariables false
set_option linter.unusedSimpArgs false
open Go.RowKit Go.Proofs.YtiinmagnpkfbbaaGreatW.PrintWords Go.Proofs.YtiinmagnpkfbbaaGreatW.PrintLast Go.Proofs.YtiinmagnpkfbbaaGreatW.PrintMore Go.Proofs.YtiinmagnpkfbbaaGreat.QT
namespace Pl
def cells3 (o : Ow) : Array Value := #[.int .i64 o.f0, .int .i64 o.f1, .int .i64 o.f2]
def aggO (o : Ow) : Value := .agg #[.int .i64 o.f0, .int .i64 o.f1, .int .i64 o.f2]
/-- Who has the node's number among a shard's owners. -/
def findL (l : List Ow) (n : Int) : Ow × Bool := if ix (at_ n) l < 0 then (z57, false) else (rd_T57 l (ix (at_ n) l), true)
def findP (shards : List (List Ow)) (sh n : Int) : Ow × Bool := if 0 ≤ sh ∧ sh < shards.length then findL (rd_L4 shards sh) n else (z57, false)
def put3 (w : World) (g : Nat) (a b c : Value) : World := ((w.setCell ⟨g, 0, none⟩ a).setCell ⟨g, 1, none⟩ b).setCell ⟨g, 2, none⟩ c
theorem put3_blk {w : World} {g : Nat} {t : TypeId} {a0 a1 a2 a b c : Value} (h : w.heap[g]? = some (.cells #[a0, a1, a2] t (0, 0))) : (put3 w g a b c).heap[g]? = some (.cells #[a, b, c] t (0, 0)) := by
 have h0 := blk_set h 0 a; have h1 := blk_set h0 1 b; have h2 := blk_set h1 2 c; unfold put3; simpa using h2
theorem put3_below {w0 w : World} {B g : Nat} (h : Below B w0 w) (hg : B ≤ g) (a b c : Value) : Below B w0 (put3 w g a b c) := ((h.setCell hg _).setCell hg _).setCell hg _
theorem find_calls (w : World) (V : Int) (An : Option Addr) (cn : Nat) (nodes : List Int) (As : Option Addr) (cs : Nat) (shards : List (List Ow)) (hP : PlAt w An cn nodes As cs shards) (sh n : Int) :
  Calls Tryz.prog 24 #[.agg #[.int .i64 V, .slice An nodes.length cn, .slice As shards.length cs], .int .i64 sh, .int .i64 n] w fun e w' => e = .returned (.tuple #[aggO (findP shards sh n).1, .bool (findP shards sh n).2]) ∧ Below w.heap.size w w' := by
 by_cases h0 : sh < 0
 case pos =>
  have HE := Lib.hid (show findP shards sh n = (z57, false) by unfold findP; rw [if_neg (by omega)]); go_enter Tryz.func24, Tryz.ntmps24
  go_wp2_with (first
   | ((with_reducible refine gate_dst (N := 3) rfl ?_); refine box_event rfl (N := 3) rfl (cs := #[.int .i64 V, .slice An nodes.length cn, .slice As shards.length cs]) (t := 25) ?hr ?_; (case hr => go_simp; done); intro gp hgp X hbox hbX; have HX := Lib.hid (And.intro hgp (And.intro hbox hbX)); clear hgp hbox hbX)
   | ((with_reducible refine gate_dst (N := 6) rfl ?_); refine box_event rfl (N := 6) rfl (cs := #[.int .i64 0, .int .i64 0, .int .i64 0]) (t := 57) ?hr ?_; (case hr => go_simp; done); intro gb hgb Y hboy hbY; have HY := Lib.hid (And.intro hgb (And.intro hboy hbY)); have y2 : Y.cell? ⟨gp, 2, none⟩ = some (.slice As shards.length cs) := (blk_cell (blk_below HX.out.2.1 hbY) 2).trans rfl; have y0' : Y.frozen? ⟨gb, 0, none⟩ = false := blk_frozen hboy 0; have y1' : Y.frozen? ⟨gb, 1, none⟩ = false := blk_frozen hboy 1; have y2' : Y.frozen? ⟨gb, 2, none⟩ = false := blk_frozen hboy 2; have u0 : Y.cell? ⟨gb, 0, none⟩ = some (.int .i64 0) := (blk_cell hboy 0).trans rfl; have u1 : Y.cell? ⟨gb, 1, none⟩ = some (.int .i64 0) := (blk_cell hboy 1).trans rfl; have u2 : Y.cell? ⟨gb, 2, none⟩ = some (.int .i64 0) := (blk_cell hboy 2).trans rfl; clear hgb hboy hbY ))
  refine bodyPost_ret (results_ct rfl _ _ gb 57 #[.int .i64 0, .int .i64 0, .int .i64 0] (0, 0) _ rfl ?hblk Tryz.underlying57 rfl (by kernel_rfl)) rfl ?_
  case hblk => exact put3_blk (HY.out.2.1)
  rw [HE.out]; exact ⟨rfl, put3_below ((below_then HX.out.2.2 HX.out.2.2.size HY.out.2.2)) (by have h1 := HX.out; have h2 := HY.out; have := h1.2.2.size; omega) _ _ _⟩
 by_cases h1 : sh < (shards.length : Int)
 case neg =>
  have d1 : decide (sh ≥ (shards.length : Int)) = true := decide_eq_true (by omega); have HE := Lib.hid (show findP shards sh n = (z57, false) by unfold findP; rw [if_neg (by omega)]); go_enter Tryz.func24, Tryz.ntmps24
  go_wp2_with (first
   | ((with_reducible refine gate_dst (N := 3) rfl ?_); refine box_event rfl (N := 3) rfl (cs := #[.int .i64 V, .slice An nodes.length cn, .slice As shards.length cs]) (t := 25) ?hr ?_; (case hr => go_simp; done); intro gp hgp X hbox hbX; have HX := Lib.hid (And.intro hgp (And.intro hbox hbX)); clear hgp hbox hbX)
   | ((with_reducible refine gate_dst (N := 6) rfl ?_); refine box_event rfl (N := 6) rfl (cs := #[.int .i64 0, .int .i64 0, .int .i64 0]) (t := 57) ?hr ?_; (case hr => go_simp; done); intro gb hgb Y hboy hbY; have HY := Lib.hid (And.intro hgb (And.intro hboy hbY)); have y2 : Y.cell? ⟨gp, 2, none⟩ = some (.slice As shards.length cs) := (blk_cell (blk_below HX.out.2.1 hbY) 2).trans rfl; have y0' : Y.frozen? ⟨gb, 0, none⟩ = false := blk_frozen hboy 0; have y1' : Y.frozen? ⟨gb, 1, none⟩ = false := blk_frozen hboy 1; have y2' : Y.frozen? ⟨gb, 2, none⟩ = false := blk_frozen hboy 2; have u0 : Y.cell? ⟨gb, 0, none⟩ = some (.int .i64 0) := (blk_cell hboy 0).trans rfl; have u1 : Y.cell? ⟨gb, 1, none⟩ = some (.int .i64 0) := (blk_cell hboy 1).trans rfl; have u2 : Y.cell? ⟨gb, 2, none⟩ = some (.int .i64 0) := (blk_cell hboy 2).trans rfl; clear hgb hboy hbY ))
  refine bodyPost_ret (results_ct rfl _ _ gb 57 #[.int .i64 0, .int .i64 0, .int .i64 0] (0, 0) _ rfl ?hblk Tryz.underlying57 rfl (by kernel_rfl)) rfl ?_
  case hblk => exact put3_blk (HY.out.2.1)
  rw [HE.out]; exact ⟨rfl, put3_below ((below_then HX.out.2.2 HX.out.2.2.size HY.out.2.2)) (by have h1 := HX.out; have h2 := HY.out; have := h1.2.2.size; omega) _ _ _⟩
 have d1 : decide (sh ≥ (shards.length : Int)) = false := decide_eq_false (by omega); have h0' : 0 ≤ sh := by omega
 obtain ⟨l, hl⟩ : ∃ l, rd_L4 shards sh = l := ⟨_, rfl⟩
 have hlm : l ∈ shards := by
  rw [← hl]; have : sh.toNat < shards.length := by omega
  unfold rd_L4; rw [List.getD_eq_getElem?_getD, List.getElem?_eq_getElem this]; exact List.getElem_mem this
 have HLL := Lib.hid (hP.lsh l hlm); have HE0 := Lib.hid (show findP shards sh n = findL l n by unfold findP; rw [if_pos ⟨h0', h1⟩, hl]); have HL := Lib.hid hl; have HP := Lib.hid hP; clear hl hlm hP
 obtain ⟨k0, hk0⟩ : ∃ k0, ix (at_ n) l = k0 := ⟨_, rfl⟩
 have hkr := ix_range (at_ n) l; rw [hk0] at hkr; have HK0 := Lib.hid hk0; clear hk0
 have cell : ∀ W : World, Below w.heap.size w W → ∃ ad A1 c1, As = some ad ∧ W.cell? (ad.add sh.toNat) = some (.slice A1 l.length c1) ∧ Kd.C k57 W A1 l.length l := by
  intro W hW; obtain ⟨ad, A1, c1, ead, q0, hc1, hC1⟩ := at_L4 (HP.out.below hW).hs sh h0' h1; rw [HL.out] at q0 hC1; exact ⟨ad, A1, c1, ead, q0, hC1⟩
 have HCELL := Lib.hid cell; obtain ⟨ad, A1, c1, ead, q0, hC1⟩ := cell w (Below.refl _ _); cases ead; have HQ0 := Lib.hid q0; have HC1 := Lib.hid hC1; clear q0 hC1 cell HCELL; go_enter Tryz.func24, Tryz.ntmps24
 go_wp2_with (first
  | ((with_reducible refine gate_dst (N := 3) rfl ?_); refine box_event rfl (N := 3) rfl (cs := #[.int .i64 V, .slice An nodes.length cn, .slice (some ad) shards.length cs]) (t := 25) ?hr ?_; (case hr => go_simp; done); intro gp hgp X hbox hbX; have HX := Lib.hid (And.intro hgp (And.intro hbox hbX)); clear hgp hbox hbX)
  | ((with_reducible refine gate_dst (N := 6) rfl ?_); refine box_event rfl (N := 6) rfl (cs := #[.int .i64 0, .int .i64 0, .int .i64 0]) (t := 57) ?hr ?_; (case hr => go_simp; done); intro gb hgb Y hboy hbY; have HY := Lib.hid (And.intro hgb (And.intro hboy hbY)); have y2 : Y.cell? ⟨gp, 2, none⟩ = some (.slice (some ad) shards.length cs) := (blk_cell (blk_below HX.out.2.1 hbY) 2).trans rfl; have q1 := pw_cell_below (below_then HX.out.2.2 HX.out.2.2.size hbY) HQ0.out; clear hgb hboy hbY ))
 have HBY := Lib.hid (below_then HX.out.2.2 HX.out.2.2.size HY.out.2.2); have HOW := Lib.hid (owner_calls Y A1 c1 l (Kd.C_below HC1.out HBY.out) HLL.out n); with_reducible refine HOW.out.mono ?_
 rintro e w5 ⟨rfl, hb5⟩; rw [HK0.out]; have HB5 := Lib.hid (below_then HBY.out HBY.out.size hb5); have HG5 := Lib.hid (blk_below HY.out.2.1 hb5); have y2' : w5.cell? ⟨gp, 2, none⟩ = some (.slice (some ad) shards.length cs) := pw_cell_below hb5 y2; have q2 : w5.cell? (ad.add sh.toNat) = some (.slice A1 l.length c1) := pw_cell_below HB5.out HQ0.out; have f0 : w5.frozen? ⟨gb, 0, none⟩ = false := blk_frozen HG5.out 0; have f1 : w5.frozen? ⟨gb, 1, none⟩ = false := blk_frozen HG5.out 1; have f2 : w5.frozen? ⟨gb, 2, none⟩ = false := blk_frozen HG5.out 2; have u0 : w5.cell? ⟨gb, 0, none⟩ = some (.int .i64 0) := (blk_cell HG5.out 0).trans rfl; have u1 : w5.cell? ⟨gb, 1, none⟩ = some (.int .i64 0) := (blk_cell HG5.out 1).trans rfl; have u2 : w5.cell? ⟨gb, 2, none⟩ = some (.int .i64 0) := (blk_cell HG5.out 2).trans rfl; clear hb5 HOW y2 q1
 by_cases hk : k0 < 0
 ·
  have HE := Lib.hid (show findP shards sh n = (z57, false) by rw [HE0.out]; unfold findL; rw [HK0.out, if_pos hk]); go_wp2; refine bodyPost_ret (results_ct rfl _ _ gb 57 #[.int .i64 0, .int .i64 0, .int .i64 0] (0, 0) _ rfl ?hblk Tryz.underlying57 rfl (by kernel_rfl)) rfl ?_
  case hblk => exact put3_blk (HG5.out)
  rw [HE.out]; exact ⟨rfl, put3_below (HB5.out) (by have h1 := HX.out; have h2 := HY.out; have := h1.2.2.size; omega) _ _ _⟩
 ·
  have hk' : 0 ≤ k0 := by omega
  have hkl : k0 < (l.length : Int) := by omega
  obtain ⟨ad2, ead, r0, r1, r2⟩ := at_T57 (Kd.C_below HC1.out HB5.out) k0 hk' hkl; cases ead
  obtain ⟨o, ho⟩ : ∃ o, rd_T57 l k0 = o := ⟨_, rfl⟩
  rw [ho] at r0 r1 r2; have HE := Lib.hid (show findP shards sh n = (o, true) by rw [HE0.out]; unfold findL; rw [HK0.out, if_neg hk, ho]); clear ho; go_wp2; refine bodyPost_ret (results_ct rfl _ _ gb 57 #[.int .i64 o.f0, .int .i64 o.f1, .int .i64 o.f2] (0, 0) _ rfl ?hblk Tryz.underlying57 rfl (by kernel_rfl)) rfl ?_
  case hblk => exact put3_blk (HG5.out)
  rw [HE.out]; exact ⟨rfl, put3_below (HB5.out) (by have h1 := HX.out; have h2 := HY.out; have := h1.2.2.size; omega) _ _ _⟩
theorem rfind_l0 (n : Int) (l : List Ow) (hl : l.length ≤ 9223372036854775807) : ∀ (R P : List Ow), l = P ++ R → (∀ x ∈ P, at_ n x = false) → Ev (fun k => thermographref14_Find.l0 k n l (P.length : Int)) ((findL l n).1.f0, (findL l n).1.f1, (findL l n).1.f2, (findL l n).2)
 | [], P, h, hp => by
  rw [List.append_nil] at h; subst h
  have : findL l n = (z57, false) := by
   unfold findL; rw [if_pos]
   by_cases h : ix (at_ n) l < 0
   ·
    exact h
   ·
    obtain ⟨x, hx, h2⟩ := ix_some (p := at_ n) (l := l) h; rw [hp x hx] at h2; cases h2
  rw [this]; refine Ev.step (f := fun _ => some _) (fun k => ?_) (Ev.now _); rw [thermographref14_Find.l0, if_neg (by omega)]
  rfl
 | x :: R, P, h, hp => by
  have hll : l.length = P.length + R.length + 1 := by rw [h]; simp; omega
  have e : rd_T57 l (P.length : Int) = x := by rw [h]; exact rd38_mid P R x _ rfl
  by_cases hx : x.f0 = n
  ·
   have hix : ix (at_ n) l = (P.length : Int) := by
    unfold ix
    have key : ∀ (Q : List Ow) (i : Nat), (∀ y ∈ Q, at_ n y = false) → ixFrom (at_ n) (Q ++ x :: R) i = ((i + Q.length : Nat) : Int) := by
     intro Q
     induction Q with
     | nil => intro i _; simp only [List.nil_append, ixFrom]; rw [if_pos (by unfold at_; simpa using hx)]; simp
     | cons y Q ih =>
      intro i hq; rw [List.cons_append, ixFrom, if_neg (by rw [hq y List.mem_cons_self]; simp), ih (i + 1) (fun z hz => hq z (List.mem_cons_of_mem _ hz))]
      congr 1
      rw [List.length_cons]; omega
    rw [h, key P 0 hp, Nat.zero_add]
   have : findL l n = (x, true) := by unfold findL; rw [hix, if_neg (by omega), e]
   rw [this]; refine Ev.step (f := fun _ => some _) (fun k => ?_) (Ev.now _); rw [thermographref14_Find.l0, if_pos (by omega), if_pos (by omega), e, if_pos hx]
  ·
   have ih := rfind_l0 n l hl R (P ++ [x]) (by rw [h]; simp) (fun y hy => by
    rcases List.mem_append.1 hy with hy | hy
    ·
     exact hp y hy
    ·
     rw [List.mem_singleton.1 hy]; unfold at_; simpa using hx)
   rw [List.length_append, List.length_singleton] at ih; refine Ev.step (fun k => ?_) ih; rw [thermographref14_Find.l0, if_pos (by omega), if_pos (by omega), e, if_neg hx, w1 _ (by omega)]
theorem rfind_ev (V : Int) (nodes : List Int) (shards : List (List Ow)) (hl : ∀ l ∈ shards, l.length ≤ 9223372036854775807) (sh n : Int) : Ev (fun k => thermographref14_Find.f k V nodes shards sh n) ((findP shards sh n).1.f0, (findP shards sh n).1.f1, (findP shards sh n).1.f2, (findP shards sh n).2) := by
 have bad : findP shards sh n = (z57, false) → Ev (fun k => thermographref14_Find.j0 k sh n true V nodes shards) ((findP shards sh n).1.f0, (findP shards sh n).1.f1, (findP shards sh n).1.f2, (findP shards sh n).2) := fun h => by
  rw [h]; refine Ev.step (f := fun _ => some _) (fun k => ?_) (Ev.now _); rw [thermographref14_Find.j0, if_pos rfl]; rfl
 unfold thermographref14_Find.f
 by_cases h0 : sh < 0
 ·
  exact Ev.congr (fun k => by rw [if_pos h0]) (bad (by unfold findP; rw [if_neg (by omega)]))
 ·
  by_cases h1 : sh ≥ (shards.length : Int)
  ·
   exact Ev.congr (fun k => by rw [if_neg h0, decide_eq_true h1]) (bad (by unfold findP; rw [if_neg (by omega)]))
  ·
   have hlm : rd_L4 shards sh ∈ shards := by
    have : sh.toNat < shards.length := by omega
    unfold rd_L4; rw [List.getD_eq_getElem?_getD, List.getElem?_eq_getElem this]; exact List.getElem_mem this
   have h := rfind_l0 n (rd_L4 shards sh) (hl _ hlm) _ [] rfl (by simp); have e : findP shards sh n = findL (rd_L4 shards sh) n := by unfold findP; rw [if_pos ⟨by omega, by omega⟩]
   rw [e]; refine Ev.congr (f := fun k => thermographref14_Find.j0 k sh n false V nodes shards) (fun k => by rw [if_neg h0, decide_eq_false h1]) (Ev.step (fun k => ?_) h); rw [thermographref14_Find.j0, if_neg (by simp), if_pos (by omega), if_pos (by omega)]; rfl
theorem rfind_calls (w : World) (V : Int) (An : Option Addr) (cn : Nat) (nodes : List Int) (As : Option Addr) (cs : Nat) (shards : List (List Ow)) (hP : PlAt w An cn nodes As cs shards) (sh n : Int) :
  Calls Tryz.prog 29 #[.agg #[.int .i64 V, .slice An nodes.length cn, .slice As shards.length cs], .int .i64 sh, .int .i64 n] w fun e w' => e = .returned (.tuple #[aggO (findP shards sh n).1, .bool (findP shards sh n).2]) ∧ Below w.heap.size w w' := by
 obtain ⟨k, hk⟩ := (rfind_ev V nodes shards hP.lsh sh n).rounds; exact thermographref14_Find.calls k V An cn nodes As cs shards sh n _ _ _ _ w hP.hn hP.hcn hP.hs hP.hcs hk
def ownsP (shards : List (List Ow)) (sh n : Int) : Bool := (findP shards sh n).2 && ((findP shards sh n).1.f1 != 3)
theorem rowns_calls (w : World) (V : Int) (An : Option Addr) (cn : Nat) (nodes : List Int) (As : Option Addr) (cs : Nat) (shards : List (List Ow)) (hP : PlAt w An cn nodes As cs shards) (sh n : Int) :
  Calls Tryz.prog 28 #[.agg #[.int .i64 V, .slice An nodes.length cn, .slice As shards.length cs], .int .i64 sh, .int .i64 n] w fun e w' => e = .returned (.bool (ownsP shards sh n)) ∧ Below w.heap.size w w' := by
 have h := rfind_ev V nodes shards hP.lsh sh n
 have h2 : Ev (fun k => thermographref14_Owns.f k V nodes shards sh n) (ownsP shards sh n) := by
  refine Ev.congr (fun k => ?_) (Ev.bind (f := fun _ (bt127 : Int × Int × Int × Bool) => if bt127.2.2.2 = true then some (bt127.2.1 != 3) else some false) h (Ev.congr (f := fun _ => some (ownsP shards sh n)) (fun k => ?_) (Ev.now _)))
  ·
   unfold thermographref14_Owns.f; rfl
  ·
   unfold ownsP
   dsimp only
   cases (findP shards sh n).2 with
   | true => rw [if_pos rfl, Bool.true_and]
   | false => rw [if_neg (by simp), Bool.false_and]
 obtain ⟨k, hk⟩ := h2.rounds; exact thermographref14_Owns.calls k V An cn nodes As cs shards sh n _ w hP.hn hP.hcn hP.hs hP.hcs hk
end Pl
end Go.Proofs.YtiinmagnpkfbbaaGreat
end
section
namespace Go.Proofs.YtiinmagnpkfbbaaGreat
set_option linter.unusedVariables false
set_option linter.unusedSimpArgs false
open Go.RowKit Go.Proofs.YtiinmagnpkfbbaaGreatW.PrintWords Go.Proofs.YtiinmagnpkfbbaaGreatW.PrintLast Go.Proofs.YtiinmagnpkfbbaaGreatW.PrintMore Go.Proofs.YtiinmagnpkfbbaaGreat.QT Go.Sort
namespace Bt
abbrev Ow := Pl.Ow
abbrev R := Rg.R
abbrev kI : Kd Int := Kd.int .i64
abbrev Im := List (Int × Unit)
abbrev Pm := List (ByteArray × Value)
def ekI (n : Int) : Value := .int .i64 n
def evU (_ : Unit) : Value := .agg #[]
theorem encI : XM.Enc Tryz.prog 3 ekI := ⟨Maps.int_keyed Tryz.underlying3, fun a a' h => by unfold ekI at h; cases h; rfl⟩
theorem keyI (n : Int) (h : (Lit.int .i64 n).wf = true) : keyOf Tryz.prog 3 (.int .i64 n) = some (.int .i64 n) := by
 unfold keyOf; rw [Tryz.underlying3]; simp [mapKey, Tryz.underlying3, h]
theorem isKI (n : Int) (h : (Lit.int .i64 n).wf = true) : XM.IsK Tryz.prog 3 ekI n := ⟨_, keyI n h⟩
def ekS (s : ByteArray) : Value := .string s
def evV (v : Value) : Value := v
theorem encS : XM.Enc Tryz.prog 9 ekS := ⟨Maps.string_keyed Tryz.underlying9, fun a a' h => by unfold ekS at h; cases h; rfl⟩
theorem keyS (s : ByteArray) (h : s.size ≤ maxLen) : keyOf Tryz.prog 9 (.string s) = some (.string s.data.toList) := by
 unfold keyOf; rw [Tryz.underlying9]; simp [mapKey, Tryz.underlying9, h]
theorem isKS (s : ByteArray) (h : s.size ≤ maxLen) : XM.IsK Tryz.prog 9 ekS s := ⟨_, keyS s h⟩
def IM (w : World) (b : Nat) (gm : Im) : Prop := XM.MapIs Tryz.prog 3 ekI evU w b gm
def PM (w : World) (b : Nat) (pm : Pm) : Prop := XM.MapIs Tryz.prog 9 ekS evV w b pm
/-- A boot: who it is; who else may give; who has given; what it needs; what it lacks by itself; what it holds. -/
structure Bo where
 own : Ow
 oth : List Int
 gv : Im
 need : R
 left : List R
 pts : Pm
def bcells (o : Ow) (n : R) (gm gp : Nat) (vO vL : Value) : Array Value := #[.int .i64 o.f0, .int .i64 o.f1, .int .i64 o.f2, vO, .map (some gm), .int .i64 n.f0, .int .i64 n.f1, vL, .map (some gp)]
structure Is (w : World) (B g gm gp : Nat) (vO vL : Value) (b : Bo) : Prop where
 blk : w.heap[g]? = some (.cells (bcells b.own b.need gm gp vO vL) 65 (0, 0))
 oth : Kd.R kI 3 w B (fun _ => True) vO b.oth
 left : Kd.R k27 27 w B (fun _ => True) vL b.left
 gv : IM w gm b.gv
 pts : PM w gp b.pts
 bg : B ≤ g
 bm : B ≤ gm
 bp : B ≤ gp
 ne : gm ≠ gp
theorem Is.below {w w' : World} {B g gm gp : Nat} {vO vL : Value} {b : Bo} (h : Is w B g gm gp vO vL b) (hb : Below w.heap.size w w') : Is w' B g gm gp vO vL b :=
 ⟨blk_below h.blk hb, Kd.R_below h.oth hb, Kd.R_below h.left hb, XM.MapIs.below h.gv hb, XM.MapIs.below h.pts hb, h.bg, h.bm, h.bp, h.ne⟩
/-- A cells' block is no map's. -/
theorem row_map {α : Type} {d : Kd α} {e : Nat} {w : World} {B : Nat} {ok : Nat → Prop} {v : Value} {xs : List α} (hR : d.R e w B ok v xs) {β γ : Type} {k : TypeId} {ek : β → Value} {ev : γ → Value} {b : Nat} {m : List (β × γ)} (hM : XM.MapIs Tryz.prog k ek ev w b m) : some b ≠ v.ownBlock := by
 intro hk; obtain ⟨_, _, _, ⟨q, _, cells, hc⟩⟩ := (Kd.R_bound hR).1 b hk.symm; exact hM.noCells hc rfl
/-- A map of the boot's has been written. -/
theorem Is.given {w w' : World} {B g gm gp : Nat} {vO vL : Value} {b : Bo} (h : Is w B g gm gp vO vL b) (hg : w.grownBy w' (some gm)) {gv : Im} (hm : IM w' gm gv) : Is w' B g gm gp vO vL { b with gv := gv } :=
 ⟨(hg.block g (blk_lt h.blk) (fun e => by cases e; exact h.gv.noCells h.blk rfl)).trans h.blk, Kd.R_grown1 h.oth rfl hg (row_map h.oth h.gv), Kd.R_grown1 h.left rfl hg (row_map h.left h.gv), hm, XM.MapIs.kept h.pts hg (fun e => h.ne (by cases e; rfl)), h.bg, h.bm, h.bp, h.ne⟩
theorem Is.held {w w' : World} {B g gm gp : Nat} {vO vL : Value} {b : Bo} (h : Is w B g gm gp vO vL b) (hg : w.grownBy w' (some gp)) {pm : Pm} (hm : PM w' gp pm) : Is w' B g gm gp vO vL { b with pts := pm } :=
 ⟨(hg.block g (blk_lt h.blk) (fun e => by cases e; exact h.pts.noCells h.blk rfl)).trans h.blk, Kd.R_grown1 h.oth rfl hg (row_map h.oth h.pts), Kd.R_grown1 h.left rfl hg (row_map h.left h.pts), XM.MapIs.kept h.gv hg (fun e => h.ne (by cases e; rfl)), hm, h.bg, h.bm, h.bp, h.ne⟩
theorem init_calls (w : World) (g : Nat) (st : Int) (h : w.cell? ⟨g, 1, none⟩ = some (.int .i64 st)) : Calls Tryz.prog 31 #[.pointer (some ⟨g, 0, none⟩)] w fun e w' => e = .returned (.bool (st == 1)) ∧ w = w' := by
 go_enter Tryz.func31, Tryz.ntmps31
 go_wp2; go_ret; exact ⟨rfl, rfl⟩
theorem z71 (w : World) : (zeroValue 71).run Tryz.prog w = .ok (.agg #[]) w := by kernel_rfl
def gave (gv : Im) (n : Int) : Bool := (XM.aget gv n).isSome
theorem gave_calls (w : World) (g gm : Nat) (gv : Im) (h : w.cell? ⟨g, 4, none⟩ = some (.map (some gm))) (hM : IM w gm gv) (n : Int) (hn : (Lit.int .i64 n).wf = true) :
  Calls Tryz.prog 40 #[.pointer (some ⟨g, 0, none⟩), .int .i64 n] w fun e w' => e = .returned (.bool (gave gv n)) ∧ Below w.heap.size w w' := by
 have HM := Lib.hid hM; have HN := Lib.hid (isKI n hn)
 cases hg : XM.aget gv n with
 | none =>
  have HG := Lib.hid hg; have HE := Lib.hid (show gave gv n = false by unfold gave; rw [hg]; rfl); have HB := Lib.hid (below_alloc (Below.refl w.heap.size w) (.cells #[] 71)); clear hM hn hg; go_enter Tryz.func40, Tryz.ntmps40
  go_wp2_with (at_lookup; go_loud (refine XM.wp_look_none_ok _ rfl _ _ 61 rfl 3 71 encI Tryz.underlying61 (.agg #[]) (z71 _) gm gv rfl HM.out n rfl HN.out HG.out ?_))
  go_ret; rw [HE.out]
  exact ⟨rfl, HB.out⟩
 | some u =>
  have HG := Lib.hid hg; have HE := Lib.hid (show gave gv n = true by unfold gave; rw [hg]; rfl); have HB := Lib.hid (below_alloc (Below.refl w.heap.size w) (.cells #[] 71)); clear hM hn hg; go_enter Tryz.func40, Tryz.ntmps40
  go_wp2_with (at_lookup; go_loud (refine XM.wp_look_some_ok _ rfl _ _ 61 rfl 3 71 encI Tryz.underlying61 gm gv rfl HM.out n rfl HN.out u HG.out ?_); simp only [evU])
  go_ret; rw [HE.out]; exact ⟨rfl, HB.out⟩
end Bt
end Go.Proofs.YtiinmagnpkfbbaaGreat
end
section
set_option maxHeartbeats 2000000
set_option maxRecDepth 100000
namespace Go.Proofs.YtiinmagnpkfbbaaGreat
set_option linter.unusedVariables false
set_option linter.unusedSimpArgs false
open Go.RowKit Go.Proofs.YtiinmagnpkfbbaaGreatW.PrintWords Go.Proofs.YtiinmagnpkfbbaaGreatW.PrintLast Go.Proofs.YtiinmagnpkfbbaaGreatW.PrintMore Go.Proofs.YtiinmagnpkfbbaaGreat.QT Go.Sort
namespace Bt
def enough (b : Bo) : Bool := gave b.gv b.own.f2 || (b.oth.length == 2 && gave b.gv (b.oth.getD 0 0) && gave b.gv (b.oth.getD 1 0))
def leftOf (b : Bo) : List R := if b.own.f1 = 1 ∧ enough b = true then [] else b.left
/-- What its walk needs of a boot's numbers. -/
structure Wf (b : Bo) : Prop where
 src : (Lit.int .i64 b.own.f2).wf = true
 oth : ∀ x ∈ b.oth, (Lit.int .i64 x).wf = true
 l1 : b.oth.length ≤ 1000000
 l2 : b.left.length ≤ 1000000
theorem R_cap {α : Type} {d : Kd α} {e B : Nat} {w : World} {ok : Nat → Prop} {A : Option Addr} {n c : Nat} {xs : List α} (h : d.R e w B ok (.slice A n c) xs) : n ≤ c := (Kd.R_reads' h).2.1
theorem left_calls (w : World) (B g gm gp : Nat) (vO vL : Value) (b : Bo) (h : Is w B g gm gp vO vL b) (hw : Wf b) :
  Calls Tryz.prog 21 #[.pointer (some ⟨g, 0, none⟩)] w fun e w' => ∃ v : Value, e = .returned v ∧ Kd.R k27 27 w' w.heap.size (fun _ => True) v (leftOf b) ∧ Below w.heap.size w w' := by
 obtain ⟨AO, cO, rfl⟩ := Kd.R_slice h.oth; obtain ⟨AL, cL, rfl⟩ := Kd.R_slice h.left; have HI := Lib.hid h; have HW := Lib.hid hw; have hl2 := hw.l2; clear h hw
 cases hA : gave b.gv b.own.f2 with
 | true =>
  have HE := Lib.hid (show enough b = true by unfold enough; rw [hA]; rfl); have c0_2 : w.cell? ⟨g, 2, none⟩ = some (.int .i64 b.own.f2) := (blk_cell HI.out.blk 2).trans rfl; have hgc := gave_calls w g gm b.gv ((blk_cell HI.out.blk 4).trans rfl) HI.out.gv b.own.f2 HW.out.src; rw [hA] at hgc; have HGC := Lib.hid hgc; clear hgc; go_enter Tryz.func21, Tryz.ntmps21
  go_wp2_with fail
  with_reducible refine HGC.out.mono ?_
  rintro e w1 ⟨rfl, hb1⟩; have HI1 := Lib.hid (HI.out.below hb1); have HB1 := Lib.hid hb1; clear hb1 HGC c0_2; have c1_1 : w1.cell? ⟨g, 1, none⟩ = some (.int .i64 b.own.f1) := (blk_cell HI1.out.blk 1).trans rfl; have c1_3 : w1.cell? ⟨g, 3, none⟩ = some (.slice AO b.oth.length cO) := (blk_cell HI1.out.blk 3).trans rfl; have c1_7 : w1.cell? ⟨g, 7, none⟩ = some (.slice AL b.left.length cL) := (blk_cell HI1.out.blk 7).trans rfl; go_wp2_with fail
  with_reducible refine (init_calls _ g b.own.f1 c1_1).mono ?_
  rintro e w9 ⟨rfl, rfl⟩
  by_cases hst : b.own.f1 = 1
  ·
   have d1 : (b.own.f1 == 1) = true := beq_iff_eq.2 hst; have HL := Lib.hid (show leftOf b = [] by unfold leftOf; rw [if_pos ⟨hst, HE.out⟩]); clear hst; go_wp2; go_ret; exact ⟨_, rfl, by rw [HL.out]; exact Kd.R_nil _ _ _ _ _, HB1.out⟩
  ·
   have d1 : (b.own.f1 == 1) = false := beq_eq_false_iff_ne.2 hst; have HL := Lib.hid (show leftOf b = b.left by unfold leftOf; rw [if_neg (fun h => hst h.1)]); clear hst; have HCL := Lib.hid (Rg.clone_Range.calls AL cL b.left b.left w1 (Kd.R_reads' HI1.out.left).2.2 (R_cap HI1.out.left) (by unfold Rg.clone_Range.f; rw [if_pos (by omega)])); go_wp2_with fail
   with_reducible refine HCL.out.mono ?_
   rintro e w10 ⟨v10, rfl, hR, hb⟩; have HR := Lib.hid hR; have HB10 := Lib.hid (below_then HB1.out HB1.out.size hb); have HZ := Lib.hid HB1.out.size; clear hR hb; go_wp2; go_ret
   exact ⟨_, rfl, by rw [HL.out]; exact Kd.R_lower HR.out HZ.out, HB10.out⟩
 | false =>
  by_cases hlen : b.oth.length = 2
  case neg =>
   have e2 : ((b.oth.length : Int) == 2) = false := beq_eq_false_iff_ne.2 (by omega); have HE := Lib.hid (show enough b = false by unfold enough; rw [hA, beq_eq_false_iff_ne.2 hlen]; rfl); clear hlen; have c0_2 : w.cell? ⟨g, 2, none⟩ = some (.int .i64 b.own.f2) := (blk_cell HI.out.blk 2).trans rfl; have hgc := gave_calls w g gm b.gv ((blk_cell HI.out.blk 4).trans rfl) HI.out.gv b.own.f2 HW.out.src; rw [hA] at hgc; have HGC := Lib.hid hgc; clear hgc; go_enter Tryz.func21, Tryz.ntmps21
   go_wp2_with fail
   with_reducible refine HGC.out.mono ?_
   rintro e w1 ⟨rfl, hb1⟩; have HI1 := Lib.hid (HI.out.below hb1); have HB1 := Lib.hid hb1; clear hb1 HGC c0_2; have c1_1 : w1.cell? ⟨g, 1, none⟩ = some (.int .i64 b.own.f1) := (blk_cell HI1.out.blk 1).trans rfl; have c1_3 : w1.cell? ⟨g, 3, none⟩ = some (.slice AO b.oth.length cO) := (blk_cell HI1.out.blk 3).trans rfl; have c1_7 : w1.cell? ⟨g, 7, none⟩ = some (.slice AL b.left.length cL) := (blk_cell HI1.out.blk 7).trans rfl; go_wp2_with fail
   with_reducible refine (init_calls _ g b.own.f1 c1_1).mono ?_
   rintro e w9 ⟨rfl, rfl⟩; have HL := Lib.hid (show leftOf b = b.left by unfold leftOf; rw [if_neg (fun h => by rw [HE.out] at h; cases h.2)]); cases d1 : (b.own.f1 == 1)
   all_goals
    have HCL := Lib.hid (Rg.clone_Range.calls AL cL b.left b.left w1 (Kd.R_reads' HI1.out.left).2.2 (R_cap HI1.out.left) (by unfold Rg.clone_Range.f; rw [if_pos (by omega)])); go_wp2_with fail
    with_reducible refine HCL.out.mono ?_
    rintro e w10 ⟨v10, rfl, hR, hb⟩; have HR := Lib.hid hR; have HB10 := Lib.hid (below_then HB1.out HB1.out.size hb); have HZ := Lib.hid HB1.out.size; clear hR hb; go_wp2; go_ret; exact ⟨_, rfl, by rw [HL.out]; exact Kd.R_lower HR.out HZ.out, HB10.out⟩
  case pos =>
   have e2 : ((b.oth.length : Int) == 2) = true := beq_iff_eq.2 (by omega)
   obtain ⟨x, hx0⟩ : ∃ x, rd b.oth 0 = x := ⟨_, rfl⟩
   obtain ⟨y, hy0⟩ : ∃ y, rd b.oth 1 = y := ⟨_, rfl⟩
   have hx1 : b.oth.getD 0 0 = x := hx0; have hy1 : b.oth.getD 1 0 = y := hy0; have hxm : x ∈ b.oth := by rw [← hx1, List.getD_eq_getElem?_getD, List.getElem?_eq_getElem (show 0 < b.oth.length by omega)]; exact List.getElem_mem _
   have hym : y ∈ b.oth := by rw [← hy1, List.getD_eq_getElem?_getD, List.getElem?_eq_getElem (show 1 < b.oth.length by omega)]; exact List.getElem_mem _
   have HWX := Lib.hid (HW.out.oth x hxm); have HWY := Lib.hid (HW.out.oth y hym); clear hxm hym
   obtain ⟨ga, rfl⟩ : ∃ ga, AO = some ⟨ga, 0, none⟩ := by
    obtain ⟨inner, ho⟩ := Kd.R_own HI.out.oth
    rcases ho with ⟨_, ⟨e, h0⟩ | ⟨gb, cap, cur, e, _⟩⟩
    ·
     omega
    ·
     injection e with e _ _; exact ⟨gb, e⟩
   cases hX : gave b.gv x with
   | false =>
    have HE := Lib.hid (show enough b = false by unfold enough; rw [hA, hx1, hX, Bool.and_false]; rfl); have c0_2 : w.cell? ⟨g, 2, none⟩ = some (.int .i64 b.own.f2) := (blk_cell HI.out.blk 2).trans rfl; have hgc := gave_calls w g gm b.gv ((blk_cell HI.out.blk 4).trans rfl) HI.out.gv b.own.f2 HW.out.src; rw [hA] at hgc; have HGC := Lib.hid hgc; clear hgc; go_enter Tryz.func21, Tryz.ntmps21
    go_wp2_with fail
    with_reducible refine HGC.out.mono ?_
    rintro e w1 ⟨rfl, hb1⟩; have HI1 := Lib.hid (HI.out.below hb1); have HB1 := Lib.hid hb1; clear hb1 HGC c0_2; have c1_1 : w1.cell? ⟨g, 1, none⟩ = some (.int .i64 b.own.f1) := (blk_cell HI1.out.blk 1).trans rfl; have c1_3 : w1.cell? ⟨g, 3, none⟩ = some (.slice (some ⟨ga, 0, none⟩) b.oth.length cO) := (blk_cell HI1.out.blk 3).trans rfl; have c1_7 : w1.cell? ⟨g, 7, none⟩ = some (.slice AL b.left.length cL) := (blk_cell HI1.out.blk 7).trans rfl
    have c1_x' : w1.cell? ⟨ga, 0, none⟩ = some (.int .i64 x) := by
     obtain ⟨a, ha, hc⟩ := Kd.at_int (Kd.R_reads' HI1.out.oth).2.2 0 (by omega) (by omega); cases ha; rw [← hx0]; exact hc
    have c1_y' : w1.cell? ⟨ga, 1, none⟩ = some (.int .i64 y) := by
     obtain ⟨a, ha, hc⟩ := Kd.at_int (Kd.R_reads' HI1.out.oth).2.2 1 (by omega) (by omega); cases ha; rw [← hy0]; exact hc
    have hgc := gave_calls w1 g gm b.gv ((blk_cell HI1.out.blk 4).trans rfl) HI1.out.gv x HWX.out; rw [hX] at hgc; have HGC := Lib.hid hgc; clear hgc; go_wp2_with fail
    with_reducible refine HGC.out.mono ?_
    rintro e w2 ⟨rfl, hb1⟩; have HI2 := Lib.hid (HI1.out.below hb1); have HB2 := Lib.hid (below_then HB1.out HB1.out.size hb1); clear hb1 HGC c1_1 c1_3 c1_7 c1_x' c1_y'; have c2_1 : w2.cell? ⟨g, 1, none⟩ = some (.int .i64 b.own.f1) := (blk_cell HI2.out.blk 1).trans rfl; have c2_3 : w2.cell? ⟨g, 3, none⟩ = some (.slice (some ⟨ga, 0, none⟩) b.oth.length cO) := (blk_cell HI2.out.blk 3).trans rfl; have c2_7 : w2.cell? ⟨g, 7, none⟩ = some (.slice AL b.left.length cL) := (blk_cell HI2.out.blk 7).trans rfl; go_wp2_with fail
    with_reducible refine (init_calls _ g b.own.f1 c2_1).mono ?_
    rintro e w9 ⟨rfl, rfl⟩; have HL := Lib.hid (show leftOf b = b.left by unfold leftOf; rw [if_neg (fun h => by rw [HE.out] at h; cases h.2)]); cases d1 : (b.own.f1 == 1)
    all_goals
     have HCL := Lib.hid (Rg.clone_Range.calls AL cL b.left b.left w2 (Kd.R_reads' HI2.out.left).2.2 (R_cap HI2.out.left) (by unfold Rg.clone_Range.f; rw [if_pos (by omega)])); go_wp2_with fail
     with_reducible refine HCL.out.mono ?_
     rintro e w10 ⟨v10, rfl, hR, hb⟩; have HR := Lib.hid hR; have HB10 := Lib.hid (below_then HB2.out HB2.out.size hb); have HZ := Lib.hid HB2.out.size; clear hR hb; go_wp2; go_ret
     exact ⟨_, rfl, by rw [HL.out]; exact Kd.R_lower HR.out HZ.out, HB10.out⟩
   | true =>
    cases hY : gave b.gv y with
    | false =>
     have HE := Lib.hid (show enough b = false by unfold enough; rw [hA, hy1, hY, Bool.and_false]; rfl); have c0_2 : w.cell? ⟨g, 2, none⟩ = some (.int .i64 b.own.f2) := (blk_cell HI.out.blk 2).trans rfl; have hgc := gave_calls w g gm b.gv ((blk_cell HI.out.blk 4).trans rfl) HI.out.gv b.own.f2 HW.out.src; rw [hA] at hgc; have HGC := Lib.hid hgc; clear hgc; go_enter Tryz.func21, Tryz.ntmps21
     go_wp2_with fail
     with_reducible refine HGC.out.mono ?_
     rintro e w1 ⟨rfl, hb1⟩; have HI1 := Lib.hid (HI.out.below hb1); have HB1 := Lib.hid hb1; clear hb1 HGC c0_2; have c1_1 : w1.cell? ⟨g, 1, none⟩ = some (.int .i64 b.own.f1) := (blk_cell HI1.out.blk 1).trans rfl; have c1_3 : w1.cell? ⟨g, 3, none⟩ = some (.slice (some ⟨ga, 0, none⟩) b.oth.length cO) := (blk_cell HI1.out.blk 3).trans rfl; have c1_7 : w1.cell? ⟨g, 7, none⟩ = some (.slice AL b.left.length cL) := (blk_cell HI1.out.blk 7).trans rfl
     have c1_x' : w1.cell? ⟨ga, 0, none⟩ = some (.int .i64 x) := by
      obtain ⟨a, ha, hc⟩ := Kd.at_int (Kd.R_reads' HI1.out.oth).2.2 0 (by omega) (by omega); cases ha; rw [← hx0]; exact hc
     have c1_y' : w1.cell? ⟨ga, 1, none⟩ = some (.int .i64 y) := by
      obtain ⟨a, ha, hc⟩ := Kd.at_int (Kd.R_reads' HI1.out.oth).2.2 1 (by omega) (by omega); cases ha; rw [← hy0]; exact hc
     have hgc := gave_calls w1 g gm b.gv ((blk_cell HI1.out.blk 4).trans rfl) HI1.out.gv x HWX.out; rw [hX] at hgc; have HGC := Lib.hid hgc; clear hgc; go_wp2_with fail
     with_reducible refine HGC.out.mono ?_
     rintro e w2 ⟨rfl, hb1⟩; have HI2 := Lib.hid (HI1.out.below hb1); have HB2 := Lib.hid (below_then HB1.out HB1.out.size hb1); clear hb1 HGC c1_1 c1_3 c1_7 c1_x' c1_y'; have c2_1 : w2.cell? ⟨g, 1, none⟩ = some (.int .i64 b.own.f1) := (blk_cell HI2.out.blk 1).trans rfl; have c2_3 : w2.cell? ⟨g, 3, none⟩ = some (.slice (some ⟨ga, 0, none⟩) b.oth.length cO) := (blk_cell HI2.out.blk 3).trans rfl; have c2_7 : w2.cell? ⟨g, 7, none⟩ = some (.slice AL b.left.length cL) := (blk_cell HI2.out.blk 7).trans rfl
     have c2_x' : w2.cell? ⟨ga, 0, none⟩ = some (.int .i64 x) := by
      obtain ⟨a, ha, hc⟩ := Kd.at_int (Kd.R_reads' HI2.out.oth).2.2 0 (by omega) (by omega); cases ha; rw [← hx0]; exact hc
     have c2_y' : w2.cell? ⟨ga, 1, none⟩ = some (.int .i64 y) := by
      obtain ⟨a, ha, hc⟩ := Kd.at_int (Kd.R_reads' HI2.out.oth).2.2 1 (by omega) (by omega); cases ha; rw [← hy0]; exact hc
     have hgc := gave_calls w2 g gm b.gv ((blk_cell HI2.out.blk 4).trans rfl) HI2.out.gv y HWY.out; rw [hY] at hgc; have HGC := Lib.hid hgc; clear hgc; go_wp2_with fail
     with_reducible refine HGC.out.mono ?_
     rintro e w3 ⟨rfl, hb1⟩; have HI3 := Lib.hid (HI2.out.below hb1); have HB3 := Lib.hid (below_then HB2.out HB2.out.size hb1); clear hb1 HGC c2_1 c2_3 c2_7 c2_x' c2_y'; have c3_1 : w3.cell? ⟨g, 1, none⟩ = some (.int .i64 b.own.f1) := (blk_cell HI3.out.blk 1).trans rfl; have c3_7 : w3.cell? ⟨g, 7, none⟩ = some (.slice AL b.left.length cL) := (blk_cell HI3.out.blk 7).trans rfl; go_wp2_with fail
     with_reducible refine (init_calls _ g b.own.f1 c3_1).mono ?_
     rintro e w9 ⟨rfl, rfl⟩; have HL := Lib.hid (show leftOf b = b.left by unfold leftOf; rw [if_neg (fun h => by rw [HE.out] at h; cases h.2)]); cases d1 : (b.own.f1 == 1)
     all_goals
      have HCL := Lib.hid (Rg.clone_Range.calls AL cL b.left b.left w3 (Kd.R_reads' HI3.out.left).2.2 (R_cap HI3.out.left) (by unfold Rg.clone_Range.f; rw [if_pos (by omega)])); go_wp2_with fail
      with_reducible refine HCL.out.mono ?_
      rintro e w10 ⟨v10, rfl, hR, hb⟩; have HR := Lib.hid hR; have HB10 := Lib.hid (below_then HB3.out HB3.out.size hb); have HZ := Lib.hid HB3.out.size; clear hR hb; go_wp2; go_ret
      exact ⟨_, rfl, by rw [HL.out]; exact Kd.R_lower HR.out HZ.out, HB10.out⟩
    | true =>
     have HE := Lib.hid (show enough b = true by unfold enough; rw [hA, hx1, hy1, hX, hY, hlen]; rfl); have c0_2 : w.cell? ⟨g, 2, none⟩ = some (.int .i64 b.own.f2) := (blk_cell HI.out.blk 2).trans rfl; have hgc := gave_calls w g gm b.gv ((blk_cell HI.out.blk 4).trans rfl) HI.out.gv b.own.f2 HW.out.src; rw [hA] at hgc; have HGC := Lib.hid hgc; clear hgc; go_enter Tryz.func21, Tryz.ntmps21
     go_wp2_with fail
     with_reducible refine HGC.out.mono ?_
     rintro e w1 ⟨rfl, hb1⟩; have HI1 := Lib.hid (HI.out.below hb1); have HB1 := Lib.hid hb1; clear hb1 HGC c0_2; have c1_1 : w1.cell? ⟨g, 1, none⟩ = some (.int .i64 b.own.f1) := (blk_cell HI1.out.blk 1).trans rfl; have c1_3 : w1.cell? ⟨g, 3, none⟩ = some (.slice (some ⟨ga, 0, none⟩) b.oth.length cO) := (blk_cell HI1.out.blk 3).trans rfl; have c1_7 : w1.cell? ⟨g, 7, none⟩ = some (.slice AL b.left.length cL) := (blk_cell HI1.out.blk 7).trans rfl
     have c1_x' : w1.cell? ⟨ga, 0, none⟩ = some (.int .i64 x) := by
      obtain ⟨a, ha, hc⟩ := Kd.at_int (Kd.R_reads' HI1.out.oth).2.2 0 (by omega) (by omega); cases ha; rw [← hx0]; exact hc
     have c1_y' : w1.cell? ⟨ga, 1, none⟩ = some (.int .i64 y) := by
      obtain ⟨a, ha, hc⟩ := Kd.at_int (Kd.R_reads' HI1.out.oth).2.2 1 (by omega) (by omega); cases ha; rw [← hy0]; exact hc
     have hgc := gave_calls w1 g gm b.gv ((blk_cell HI1.out.blk 4).trans rfl) HI1.out.gv x HWX.out; rw [hX] at hgc; have HGC := Lib.hid hgc; clear hgc; go_wp2_with fail
     with_reducible refine HGC.out.mono ?_
     rintro e w2 ⟨rfl, hb1⟩; have HI2 := Lib.hid (HI1.out.below hb1); have HB2 := Lib.hid (below_then HB1.out HB1.out.size hb1); clear hb1 HGC c1_1 c1_3 c1_7 c1_x' c1_y'; have c2_1 : w2.cell? ⟨g, 1, none⟩ = some (.int .i64 b.own.f1) := (blk_cell HI2.out.blk 1).trans rfl; have c2_3 : w2.cell? ⟨g, 3, none⟩ = some (.slice (some ⟨ga, 0, none⟩) b.oth.length cO) := (blk_cell HI2.out.blk 3).trans rfl; have c2_7 : w2.cell? ⟨g, 7, none⟩ = some (.slice AL b.left.length cL) := (blk_cell HI2.out.blk 7).trans rfl
     have c2_x' : w2.cell? ⟨ga, 0, none⟩ = some (.int .i64 x) := by
      obtain ⟨a, ha, hc⟩ := Kd.at_int (Kd.R_reads' HI2.out.oth).2.2 0 (by omega) (by omega); cases ha; rw [← hx0]; exact hc
     have c2_y' : w2.cell? ⟨ga, 1, none⟩ = some (.int .i64 y) := by
      obtain ⟨a, ha, hc⟩ := Kd.at_int (Kd.R_reads' HI2.out.oth).2.2 1 (by omega) (by omega); cases ha; rw [← hy0]; exact hc
     have hgc := gave_calls w2 g gm b.gv ((blk_cell HI2.out.blk 4).trans rfl) HI2.out.gv y HWY.out; rw [hY] at hgc; have HGC := Lib.hid hgc; clear hgc; go_wp2_with fail
     with_reducible refine HGC.out.mono ?_
     rintro e w3 ⟨rfl, hb1⟩; have HI3 := Lib.hid (HI2.out.below hb1); have HB3 := Lib.hid (below_then HB2.out HB2.out.size hb1); clear hb1 HGC c2_1 c2_3 c2_7 c2_x' c2_y'; have c3_1 : w3.cell? ⟨g, 1, none⟩ = some (.int .i64 b.own.f1) := (blk_cell HI3.out.blk 1).trans rfl; have c3_7 : w3.cell? ⟨g, 7, none⟩ = some (.slice AL b.left.length cL) := (blk_cell HI3.out.blk 7).trans rfl; go_wp2_with fail
     with_reducible refine (init_calls _ g b.own.f1 c3_1).mono ?_
     rintro e w9 ⟨rfl, rfl⟩
     by_cases hst : b.own.f1 = 1
     ·
      have d1 : (b.own.f1 == 1) = true := beq_iff_eq.2 hst; have HL := Lib.hid (show leftOf b = [] by unfold leftOf; rw [if_pos ⟨hst, HE.out⟩]); clear hst; go_wp2; go_ret; exact ⟨_, rfl, by rw [HL.out]; exact Kd.R_nil _ _ _ _ _, HB3.out⟩
     ·
      have d1 : (b.own.f1 == 1) = false := beq_eq_false_iff_ne.2 hst; have HL := Lib.hid (show leftOf b = b.left by unfold leftOf; rw [if_neg (fun h => hst h.1)]); clear hst; have HCL := Lib.hid (Rg.clone_Range.calls AL cL b.left b.left w3 (Kd.R_reads' HI3.out.left).2.2 (R_cap HI3.out.left) (by unfold Rg.clone_Range.f; rw [if_pos (by omega)])); go_wp2_with fail
      with_reducible refine HCL.out.mono ?_
      rintro e w10 ⟨v10, rfl, hR, hb⟩; have HR := Lib.hid hR; have HB10 := Lib.hid (below_then HB3.out HB3.out.size hb); have HZ := Lib.hid HB3.out.size; clear hR hb; go_wp2; go_ret; exact ⟨_, rfl, by rw [HL.out]; exact Kd.R_lower HR.out HZ.out, HB10.out⟩
theorem done_calls (w : World) (B g gm gp : Nat) (vO vL : Value) (b : Bo) (h : Is w B g gm gp vO vL b) (hw : Wf b) :
  Calls Tryz.prog 16 #[.pointer (some ⟨g, 0, none⟩)] w fun e w' => e = .returned (.bool (decide (leftOf b = []))) ∧ Below w.heap.size w w' := by
 have HL := Lib.hid (left_calls w B g gm gp vO vL b h hw); clear h hw; go_enter Tryz.func16, Tryz.ntmps16
 go_wp2_with fail
 with_reducible refine HL.out.mono ?_
 rintro e w1 ⟨v, rfl, hR, hb⟩; obtain ⟨A, c, rfl⟩ := Kd.R_slice hR; have HB := Lib.hid hb; clear hR hb HL; go_wp2; go_ret; refine ⟨?_, HB.out⟩
 cases leftOf b with
 | nil => rfl
 | cons x l => simp; omega
end Bt
end Go.Proofs.YtiinmagnpkfbbaaGreat
end
