/- placement.Check and the document's Check: one answer. -/
import Derived.Test.YtiinmagnpkfbbaaGreatShard
set_option maxHeartbeats 2000000
set_option maxRecDepth 100000
namespace Go.Proofs.YtiinmagnpkfbbaaGreat
set_option linter.unusedVariables false
set_option linter.unusedSimpArgs false
open Go.RowKit Go.Proofs.YtiinmagnpkfbbaaGreatW.PrintWords Go.Proofs.YtiinmagnpkfbbaaGreatW.PrintLast Go.Proofs.YtiinmagnpkfbbaaGreatW.PrintMore Go.Proofs.YtiinmagnpkfbbaaGreat.QT
namespace Pl
/-- A placement that is read. -/
structure PlAt (w : World) (An : Option Addr) (cn : Nat) (nodes : List Int) (As : Option Addr) (cs : Nat) (shards : List (List Ow)) : Prop where
 hn : Kd.C (Kd.int .i64) w An nodes.length nodes
 hcn : nodes.length ≤ cn
 ln : nodes.length ≤ 9223372036854775807
 hs : Kd.C (Kd.slice 57 k57) w As shards.length shards
 hcs : shards.length ≤ cs
 ls : shards.length ≤ 9223372036854775807
 lsh : ∀ l ∈ shards, l.length ≤ 9223372036854775807
 wf : ∀ l ∈ shards, ∀ o ∈ l, (Lit.int .i64 o.f2).wf = true ∧ (Lit.int .i64 o.f0).wf = true
theorem PlAt.below {w w' : World} {An : Option Addr} {cn : Nat} {nodes : List Int} {As : Option Addr} {cs : Nat} {shards : List (List Ow)} (h : PlAt w An cn nodes As cs shards) (hb : Below w.heap.size w w') : PlAt w' An cn nodes As cs shards :=
 ⟨Kd.C_below h.hn hb, h.hcn, h.ln, Kd.C_below h.hs hb, h.hcs, h.ls, h.lsh, h.wf⟩
def okN (l : List Int) (i : Nat) (n : Int) : Bool := nodeB n && (i == 0 || decide (rd l ((i : Int) - 1) < n))
def chkN (l : List Int) (i : Nat) : Bool := (List.range i).all (fun j => okN l j (rd l (j : Int)))
theorem chkN_next (l : List Int) (i : Nat) : chkN l (i + 1) = (chkN l i && okN l i (rd l (i : Int))) := by unfold chkN; rw [List.range_succ, List.all_append]; simp
def head5 (V : Int) (nodes : List Int) (shards : List (List Ow)) : Bool := decide (1 ≤ V) && (decide (V ≤ 1099511627776) && (decide (3 ≤ nodes.length) && (decide (1 ≤ shards.length) && decide (shards.length ≤ 8))))
def checkB (V : Int) (nodes : List Int) (shards : List (List Ow)) : Bool := head5 V nodes shards && (chkN nodes nodes.length && shards.all (rightP nodes))
def checkP (V : Int) (nodes : List Int) (shards : List (List Ow)) : Int := if checkB V nodes shards = true then 0 else 50
theorem check_no {V : Int} {nodes : List Int} {shards : List (List Ow)} (h : checkB V nodes shards = false) : checkP V nodes shards = 50 := by unfold checkP; rw [if_neg (by rw [h]; simp)]
theorem check_bad {V : Int} {nodes : List Int} {shards : List (List Ow)} (h : ¬ (1 : Int) ≤ V ∨ ¬ V ≤ 1099511627776 ∨ ¬ (3 : Int) ≤ (nodes.length : Int) ∨ ¬ (1 : Int) ≤ (shards.length : Int) ∨ ¬ (shards.length : Int) ≤ 8) : checkP V nodes shards = 50 := by
 apply check_no; unfold checkB
 have : head5 V nodes shards = false := by
  rw [← Bool.not_eq_true]; unfold head5; simp only [Bool.and_eq_true, decide_eq_true_eq]; omega
 rw [this, Bool.false_and]
theorem check1_calls (W : World) (gp : Nat) (V : Int) (An : Option Addr) (cn : Nat) (nodes : List Int) (As : Option Addr) (cs : Nat) (shards : List (List Ow)) (hb : W.heap[gp]? = some (.cells #[.int .i64 V, .slice An nodes.length cn, .slice As shards.length cs] 25 (0, 0))) (hP : PlAt W An cn nodes As cs shards)
  (x : List Ow) (hx : x ∈ shards) (A1 : Option Addr) (c1 : Nat) (hC : Kd.C k57 W A1 x.length x) :
  Calls Tryz.prog 50 (#[.slice A1 x.length c1] ++ #[.pointer (some ⟨gp, 0, none⟩)]) W fun e w' => e = .returned (.bool (!rightP nodes x)) ∧ Below W.heap.size W w' := by
 have HK := Lib.hid (right_calls W An cn nodes hP.hn hP.hcn hP.ln A1 c1 x hC (hP.lsh x hx) (hP.wf x hx)); have c0 : W.cell? ⟨gp, 1, none⟩ = some (.slice An nodes.length cn) := (blk_cell hb 1).trans rfl; clear hb hP hx hC; go_enter Tryz.func50, Tryz.ntmps50
 go_wp2_with fail
 with_reducible refine HK.out.mono ?_
 rintro e w1 ⟨rfl, hb1⟩; have HB1 := Lib.hid hb1; clear hb1 HK c0; go_wp2; go_ret; exact ⟨rfl, HB1.out⟩
theorem enter50 : ∀ args w, (callFunc 50 args).run Tryz.prog w = .ok (.enter 50 args) w := fun args w => by kernel_rfl
theorem ix_none {α : Type} {p : α → Bool} {l : List α} (h : ix p l < 0) : ∀ x ∈ l, p x = false := by
 unfold ix at h; rcases ix_ge p l 0 with ⟨_, h2⟩ | ⟨k, e, _⟩
 ·
  exact h2
 ·
  omega
theorem ix_some {α : Type} {p : α → Bool} {l : List α} (h : ¬ ix p l < 0) : ∃ x ∈ l, p x = true := by
 unfold ix at h; rcases ix_ge p l 0 with ⟨e, _⟩ | ⟨k, _, hk, h2⟩
 ·
  omega
 ·
  exact ⟨_, List.getElem_mem hk, h2⟩
theorem check_calls (w : World) (V : Int) (An : Option Addr) (cn : Nat) (nodes : List Int) (As : Option Addr) (cs : Nat) (shards : List (List Ow)) (hP : PlAt w An cn nodes As cs shards) :
  Calls Tryz.prog 25 #[.agg #[.int .i64 V, .slice An nodes.length cn, .slice As shards.length cs]] w fun e w' => e = .returned (.int .i64 (checkP V nodes shards)) ∧ Below w.heap.size w w' := by
 have hln := hP.ln
 by_cases c0 : (1 : Int) ≤ V
 case neg =>
  have HF := Lib.hid (check_bad (V := V) (nodes := nodes) (shards := shards) (Or.inl c0)); go_enter Tryz.func25, Tryz.ntmps25
  go_wp2_with ((with_reducible refine gate_dst (N := 1) rfl ?_); refine box_event rfl (N := 1) rfl (cs := #[.int .i64 V, .slice An nodes.length cn, .slice As shards.length cs]) (t := 25) ?hr ?_; (case hr => go_simp; done); intro gp hgp X hbox hbX; have HQ := Lib.hid hbox; have HBX := Lib.hid hbX; have HP := Lib.hid (hP.below hbX); have p0 : X.cell? ⟨gp, 0, none⟩ = some (.int .i64 V) := (blk_cell HQ.out 0).trans rfl; have p1 : X.cell? ⟨gp, 1, none⟩ = some (.slice An nodes.length cn) := (blk_cell HQ.out 1).trans rfl; have p2 : X.cell? ⟨gp, 2, none⟩ = some (.slice As shards.length cs) := (blk_cell HQ.out 2).trans rfl; clear hgp hbox hbX hP; skip)
  go_loopg [3, 35] nodes.length (fun gn v3 v35 wr => ∃ (i : Nat), v3 = .bool false ∧ v35 = .int .i64 (i : Int) ∧ Aside0 (gn = nodes.length - i) ∧ Aside0 (i ≤ nodes.length) ∧ Aside0 (wr = X))
  case atStart => exact ⟨0, rfl, rfl, ⟨rfl⟩, ⟨Nat.zero_le _⟩, ⟨rfl⟩⟩
  case round =>
   obtain ⟨i, rfl, rfl, HN, HI, HW⟩ := hrel; have hw := HW.out; subst hw
   by_cases hi : i < nodes.length
   ·
    have hi0 : (i : Int) < (nodes.length : Int) := by omega
    have hwr : wrap64 ((i : Int) + 1) = (i : Int) + 1 := by unfold wrap64; omega
    obtain ⟨ad, ead, q0⟩ := Kd.at_int HP.out.hn (i : Int) (by omega) hi0; have hto : ((i : Int)).toNat = i := Int.toNat_natCast i; rw [hto] at q0; cases ead; clear hto; go_wp2_with fail
    go_roundg (nodes.length - (i + 1))
    case measure => have := HN.out; omega
    case rel => exact ⟨i + 1, rfl, by rfl, ⟨rfl⟩, ⟨hi⟩, ⟨rfl⟩⟩
   ·
    have hge : ¬ (i : Int) < (nodes.length : Int) := by omega
    go_wp2; go_ret; exact ⟨by (rw [HF.out]; rfl), HBX.out⟩
 by_cases c1 : V ≤ 1099511627776
 case neg =>
  have HF := Lib.hid (check_bad (V := V) (nodes := nodes) (shards := shards) (Or.inr (Or.inl c1))); go_enter Tryz.func25, Tryz.ntmps25
  go_wp2_with ((with_reducible refine gate_dst (N := 1) rfl ?_); refine box_event rfl (N := 1) rfl (cs := #[.int .i64 V, .slice An nodes.length cn, .slice As shards.length cs]) (t := 25) ?hr ?_; (case hr => go_simp; done); intro gp hgp X hbox hbX; have HQ := Lib.hid hbox; have HBX := Lib.hid hbX; have HP := Lib.hid (hP.below hbX); have p0 : X.cell? ⟨gp, 0, none⟩ = some (.int .i64 V) := (blk_cell HQ.out 0).trans rfl; have p1 : X.cell? ⟨gp, 1, none⟩ = some (.slice An nodes.length cn) := (blk_cell HQ.out 1).trans rfl; have p2 : X.cell? ⟨gp, 2, none⟩ = some (.slice As shards.length cs) := (blk_cell HQ.out 2).trans rfl; clear hgp hbox hbX hP; skip)
  go_loopg [3, 35] nodes.length (fun gn v3 v35 wr => ∃ (i : Nat), v3 = .bool false ∧ v35 = .int .i64 (i : Int) ∧ Aside0 (gn = nodes.length - i) ∧ Aside0 (i ≤ nodes.length) ∧ Aside0 (wr = X))
  case atStart => exact ⟨0, rfl, rfl, ⟨rfl⟩, ⟨Nat.zero_le _⟩, ⟨rfl⟩⟩
  case round =>
   obtain ⟨i, rfl, rfl, HN, HI, HW⟩ := hrel; have hw := HW.out; subst hw
   by_cases hi : i < nodes.length
   ·
    have hi0 : (i : Int) < (nodes.length : Int) := by omega
    have hwr : wrap64 ((i : Int) + 1) = (i : Int) + 1 := by unfold wrap64; omega
    obtain ⟨ad, ead, q0⟩ := Kd.at_int HP.out.hn (i : Int) (by omega) hi0; have hto : ((i : Int)).toNat = i := Int.toNat_natCast i; rw [hto] at q0; cases ead; clear hto; go_wp2_with fail
    go_roundg (nodes.length - (i + 1))
    case measure => have := HN.out; omega
    case rel => exact ⟨i + 1, rfl, by rfl, ⟨rfl⟩, ⟨hi⟩, ⟨rfl⟩⟩
   ·
    have hge : ¬ (i : Int) < (nodes.length : Int) := by omega
    go_wp2; go_ret; exact ⟨by (rw [HF.out]; rfl), HBX.out⟩
 by_cases c2 : (3 : Int) ≤ (nodes.length : Int)
 case neg =>
  have HF := Lib.hid (check_bad (V := V) (nodes := nodes) (shards := shards) (Or.inr (Or.inr (Or.inl c2)))); have n2 : ¬ (3 ≤ nodes.length) := by omega
  go_enter Tryz.func25, Tryz.ntmps25
  go_wp2_with ((with_reducible refine gate_dst (N := 1) rfl ?_); refine box_event rfl (N := 1) rfl (cs := #[.int .i64 V, .slice An nodes.length cn, .slice As shards.length cs]) (t := 25) ?hr ?_; (case hr => go_simp; done); intro gp hgp X hbox hbX; have HQ := Lib.hid hbox; have HBX := Lib.hid hbX; have HP := Lib.hid (hP.below hbX); have p0 : X.cell? ⟨gp, 0, none⟩ = some (.int .i64 V) := (blk_cell HQ.out 0).trans rfl; have p1 : X.cell? ⟨gp, 1, none⟩ = some (.slice An nodes.length cn) := (blk_cell HQ.out 1).trans rfl; have p2 : X.cell? ⟨gp, 2, none⟩ = some (.slice As shards.length cs) := (blk_cell HQ.out 2).trans rfl; clear hgp hbox hbX hP; skip)
  go_loopg [3, 35] nodes.length (fun gn v3 v35 wr => ∃ (i : Nat), v3 = .bool false ∧ v35 = .int .i64 (i : Int) ∧ Aside0 (gn = nodes.length - i) ∧ Aside0 (i ≤ nodes.length) ∧ Aside0 (wr = X))
  case atStart => exact ⟨0, rfl, rfl, ⟨rfl⟩, ⟨Nat.zero_le _⟩, ⟨rfl⟩⟩
  case round =>
   obtain ⟨i, rfl, rfl, HN, HI, HW⟩ := hrel; have hw := HW.out; subst hw
   by_cases hi : i < nodes.length
   ·
    have hi0 : (i : Int) < (nodes.length : Int) := by omega
    have hwr : wrap64 ((i : Int) + 1) = (i : Int) + 1 := by unfold wrap64; omega
    obtain ⟨ad, ead, q0⟩ := Kd.at_int HP.out.hn (i : Int) (by omega) hi0; have hto : ((i : Int)).toNat = i := Int.toNat_natCast i; rw [hto] at q0; cases ead; clear hto; go_wp2_with fail
    go_roundg (nodes.length - (i + 1))
    case measure => have := HN.out; omega
    case rel => exact ⟨i + 1, rfl, by rfl, ⟨rfl⟩, ⟨hi⟩, ⟨rfl⟩⟩
   ·
    have hge : ¬ (i : Int) < (nodes.length : Int) := by omega
    go_wp2; go_ret; exact ⟨by (rw [HF.out]; rfl), HBX.out⟩
 have n2 : 3 ≤ nodes.length := by omega
 by_cases c3 : (1 : Int) ≤ (shards.length : Int)
 case neg =>
  have HF := Lib.hid (check_bad (V := V) (nodes := nodes) (shards := shards) (Or.inr (Or.inr (Or.inr (Or.inl c3))))); go_enter Tryz.func25, Tryz.ntmps25
  go_wp2_with ((with_reducible refine gate_dst (N := 1) rfl ?_); refine box_event rfl (N := 1) rfl (cs := #[.int .i64 V, .slice An nodes.length cn, .slice As shards.length cs]) (t := 25) ?hr ?_; (case hr => go_simp; done); intro gp hgp X hbox hbX; have HQ := Lib.hid hbox; have HBX := Lib.hid hbX; have HP := Lib.hid (hP.below hbX); have p0 : X.cell? ⟨gp, 0, none⟩ = some (.int .i64 V) := (blk_cell HQ.out 0).trans rfl; have p1 : X.cell? ⟨gp, 1, none⟩ = some (.slice An nodes.length cn) := (blk_cell HQ.out 1).trans rfl; have p2 : X.cell? ⟨gp, 2, none⟩ = some (.slice As shards.length cs) := (blk_cell HQ.out 2).trans rfl; clear hgp hbox hbX hP; skip)
  go_loopg [3, 35] nodes.length (fun gn v3 v35 wr => ∃ (i : Nat), v3 = .bool false ∧ v35 = .int .i64 (i : Int) ∧ Aside0 (gn = nodes.length - i) ∧ Aside0 (i ≤ nodes.length) ∧ Aside0 (wr = X))
  case atStart => exact ⟨0, rfl, rfl, ⟨rfl⟩, ⟨Nat.zero_le _⟩, ⟨rfl⟩⟩
  case round =>
   obtain ⟨i, rfl, rfl, HN, HI, HW⟩ := hrel; have hw := HW.out; subst hw
   by_cases hi : i < nodes.length
   ·
    have hi0 : (i : Int) < (nodes.length : Int) := by omega
    have hwr : wrap64 ((i : Int) + 1) = (i : Int) + 1 := by unfold wrap64; omega
    obtain ⟨ad, ead, q0⟩ := Kd.at_int HP.out.hn (i : Int) (by omega) hi0; have hto : ((i : Int)).toNat = i := Int.toNat_natCast i; rw [hto] at q0; cases ead; clear hto; go_wp2_with fail
    go_roundg (nodes.length - (i + 1))
    case measure => have := HN.out; omega
    case rel => exact ⟨i + 1, rfl, by rfl, ⟨rfl⟩, ⟨hi⟩, ⟨rfl⟩⟩
   ·
    have hge : ¬ (i : Int) < (nodes.length : Int) := by omega
    go_wp2; go_ret; exact ⟨by (rw [HF.out]; rfl), HBX.out⟩
 by_cases c4 : (shards.length : Int) ≤ 8
 case neg =>
  have HF := Lib.hid (check_bad (V := V) (nodes := nodes) (shards := shards) (Or.inr (Or.inr (Or.inr (Or.inr c4))))); go_enter Tryz.func25, Tryz.ntmps25
  go_wp2_with ((with_reducible refine gate_dst (N := 1) rfl ?_); refine box_event rfl (N := 1) rfl (cs := #[.int .i64 V, .slice An nodes.length cn, .slice As shards.length cs]) (t := 25) ?hr ?_; (case hr => go_simp; done); intro gp hgp X hbox hbX; have HQ := Lib.hid hbox; have HBX := Lib.hid hbX; have HP := Lib.hid (hP.below hbX); have p0 : X.cell? ⟨gp, 0, none⟩ = some (.int .i64 V) := (blk_cell HQ.out 0).trans rfl; have p1 : X.cell? ⟨gp, 1, none⟩ = some (.slice An nodes.length cn) := (blk_cell HQ.out 1).trans rfl; have p2 : X.cell? ⟨gp, 2, none⟩ = some (.slice As shards.length cs) := (blk_cell HQ.out 2).trans rfl; clear hgp hbox hbX hP; skip)
  go_loopg [3, 35] nodes.length (fun gn v3 v35 wr => ∃ (i : Nat), v3 = .bool false ∧ v35 = .int .i64 (i : Int) ∧ Aside0 (gn = nodes.length - i) ∧ Aside0 (i ≤ nodes.length) ∧ Aside0 (wr = X))
  case atStart => exact ⟨0, rfl, rfl, ⟨rfl⟩, ⟨Nat.zero_le _⟩, ⟨rfl⟩⟩
  case round =>
   obtain ⟨i, rfl, rfl, HN, HI, HW⟩ := hrel; have hw := HW.out; subst hw
   by_cases hi : i < nodes.length
   ·
    have hi0 : (i : Int) < (nodes.length : Int) := by omega
    have hwr : wrap64 ((i : Int) + 1) = (i : Int) + 1 := by unfold wrap64; omega
    obtain ⟨ad, ead, q0⟩ := Kd.at_int HP.out.hn (i : Int) (by omega) hi0; have hto : ((i : Int)).toNat = i := Int.toNat_natCast i; rw [hto] at q0; cases ead; clear hto; go_wp2_with fail
    go_roundg (nodes.length - (i + 1))
    case measure => have := HN.out; omega
    case rel => exact ⟨i + 1, rfl, by rfl, ⟨rfl⟩, ⟨hi⟩, ⟨rfl⟩⟩
   ·
    have hge : ¬ (i : Int) < (nodes.length : Int) := by omega
    go_wp2; go_ret; exact ⟨by (rw [HF.out]; rfl), HBX.out⟩
 have HHD := Lib.hid (show head5 V nodes shards = true by unfold head5; simp only [Bool.and_eq_true, decide_eq_true_eq]; omega); go_enter Tryz.func25, Tryz.ntmps25
 go_wp2_with ((with_reducible refine gate_dst (N := 1) rfl ?_); refine box_event rfl (N := 1) rfl (cs := #[.int .i64 V, .slice An nodes.length cn, .slice As shards.length cs]) (t := 25) ?hr ?_; (case hr => go_simp; done); intro gp hgp X hbox hbX; have HQ := Lib.hid hbox; have HBX := Lib.hid hbX; have HP := Lib.hid (hP.below hbX); have p0 : X.cell? ⟨gp, 0, none⟩ = some (.int .i64 V) := (blk_cell HQ.out 0).trans rfl; have p1 : X.cell? ⟨gp, 1, none⟩ = some (.slice An nodes.length cn) := (blk_cell HQ.out 1).trans rfl; have p2 : X.cell? ⟨gp, 2, none⟩ = some (.slice As shards.length cs) := (blk_cell HQ.out 2).trans rfl; clear hgp hbox hbX hP; skip)
 clear c0 c1 c2 c3 c4 n2; go_loopg [3, 35] nodes.length (fun gn v3 v35 wr => ∃ (i : Nat) (b : Bool), v3 = .bool b ∧ v35 = .int .i64 (i : Int) ∧ Aside0 (gn = nodes.length - i) ∧ Aside0 (i ≤ nodes.length) ∧ Aside0 (b = chkN nodes i) ∧ Aside0 (Below X.heap.size X wr))
 case atStart => exact ⟨0, true, rfl, rfl, ⟨rfl⟩, ⟨Nat.zero_le _⟩, ⟨rfl⟩, ⟨Below.refl _ _⟩⟩
 case round =>
  clear p0 p1 p2; obtain ⟨i, b, rfl, rfl, HN, HI, HBC, HB⟩ := hrel; have p1 : wr.cell? ⟨gp, 1, none⟩ = some (.slice An nodes.length cn) := (blk_cell (blk_below HQ.out HB.out) 1).trans rfl; have p2 : wr.cell? ⟨gp, 2, none⟩ = some (.slice As shards.length cs) := (blk_cell (blk_below HQ.out HB.out) 2).trans rfl
  by_cases hi : i < nodes.length
  ·
   have hi0 : (i : Int) < (nodes.length : Int) := by omega
   have hwr : wrap64 ((i : Int) + 1) = (i : Int) + 1 := by unfold wrap64; omega
   obtain ⟨ad, ead, q0⟩ := Kd.at_int (Kd.C_below HP.out.hn HB.out) (i : Int) (by omega) hi0; have hto : ((i : Int)).toNat = i := Int.toNat_natCast i; rw [hto] at q0; cases ead
   obtain ⟨n, hn⟩ : ∃ n, rd nodes (i : Int) = n := ⟨_, rfl⟩
   have hcn := chkN_next nodes i; rw [hn] at q0 hcn; have HCN := Lib.hid hcn; clear hto hn hcn
   cases b with
   | false =>
    go_wp2_with fail
    go_roundg (nodes.length - (i + 1))
    case measure => have := HN.out; omega
    case rel => exact ⟨i + 1, false, rfl, by rfl, ⟨rfl⟩, ⟨hi⟩, ⟨by rw [HCN.out, ← HBC.out]; rfl⟩, HB⟩
   | true =>
    cases hnb : nodeB n with
    | false =>
     have hk := fun W => isNode_calls W n; rw [hnb] at hk; have HK := Lib.hid hk; have HNB := Lib.hid hnb; clear hk hnb; go_wp2_with fail
     with_reducible refine (HK.out _).mono ?_
     rintro e w5 ⟨rfl, hb5⟩; have HB5 := Lib.hid (below_then HB.out HB.out.size hb5); clear hb5 HK q0 p1 p2; go_wp2; go_roundg (nodes.length - (i + 1))
     case measure => have := HN.out; omega
     case rel => exact ⟨i + 1, false, rfl, by rfl, ⟨rfl⟩, ⟨hi⟩, ⟨by rw [HCN.out]; unfold okN; rw [HNB.out, Bool.false_and, Bool.and_false]⟩, ⟨HB5.out⟩⟩
    | true =>
     have hk := fun W => isNode_calls W n; rw [hnb] at hk; have HK := Lib.hid hk; have HNB := Lib.hid hnb; clear hk hnb
     by_cases hz : i = 0
     ·
      have z0 : ((i : Int) == 0) = true := by rw [beq_iff_eq]; omega
      have HZ := Lib.hid hz; clear hz; go_wp2_with fail
      with_reducible refine (HK.out _).mono ?_
      rintro e w5 ⟨rfl, hb5⟩; have HB5 := Lib.hid (below_then HB.out HB.out.size hb5); clear hb5 HK q0 p1 p2; go_wp2; go_roundg (nodes.length - (i + 1))
      case measure => have := HN.out; omega
      case rel => exact ⟨i + 1, true, rfl, by rfl, ⟨rfl⟩, ⟨hi⟩, ⟨by rw [HCN.out, ← HBC.out]; unfold okN; rw [HNB.out, HZ.out]; rfl⟩, ⟨HB5.out⟩⟩
     ·
      have z0 : ((i : Int) == 0) = false := by rw [beq_eq_false_iff_ne]; omega
      have hwm : wrap64 ((i : Int) - 1) = (i : Int) - 1 := by unfold wrap64; omega
      have hm0 : (0 : Int) ≤ (i : Int) - 1 := by omega
      have hm1 : (i : Int) - 1 < (nodes.length : Int) := by omega
      have h1i : (1 : Int) ≤ (i : Int) := by omega
      have HZ := Lib.hid hz; clear hz; go_wp2_with fail
      with_reducible refine (HK.out _).mono ?_
      rintro e w5 ⟨rfl, hb5⟩; have hB5 := below_then HB.out HB.out.size hb5; have HB5 := Lib.hid hB5; have p1' : w5.cell? ⟨gp, 1, none⟩ = some (.slice (some ad) nodes.length cn) := (blk_cell (blk_below HQ.out hB5) 1).trans rfl; obtain ⟨ad2, ead, q1⟩ := Kd.at_int (Kd.C_below HP.out.hn hB5) ((i : Int) - 1) hm0 hm1; cases ead; rw [show ((i : Int) - 1).toNat = i - 1 by omega] at q1
      obtain ⟨m, hm⟩ : ∃ m, rd nodes ((i : Int) - 1) = m := ⟨_, rfl⟩
      rw [hm] at q1; have HM := Lib.hid hm; clear hb5 HK q0 p1 p2 hB5 hm
      cases hlt : decide (m < n) with
      | true =>
       have HLT := Lib.hid hlt; go_wp2; go_roundg (nodes.length - (i + 1))
       case measure => have := HN.out; omega
       case rel => exact ⟨i + 1, true, rfl, by rfl, ⟨rfl⟩, ⟨hi⟩, ⟨by rw [HCN.out, ← HBC.out]; unfold okN; rw [HNB.out, HM.out, HLT.out, Bool.or_true]; rfl⟩, ⟨HB5.out⟩⟩
      | false =>
       have HLT := Lib.hid hlt; go_wp2; go_roundg (nodes.length - (i + 1))
       case measure => have := HN.out; omega
       case rel => exact ⟨i + 1, false, rfl, by rfl, ⟨rfl⟩, ⟨hi⟩, ⟨by rw [HCN.out]; unfold okN; rw [HM.out, HLT.out, show (i == 0) = false by simpa using HZ.out, Bool.or_false, Bool.and_false, Bool.and_false]⟩, ⟨HB5.out⟩⟩
  ·
   have hge : ¬ (i : Int) < (nodes.length : Int) := by omega
   have hie : i = nodes.length := by have := HI.out; omega
   have hbc := HBC.out; rw [hie] at hbc; have HCK := Lib.hid hbc; clear hbc HBC hie
   cases b with
   | false =>
    go_wp2; go_ret; have := check_no (V := V) (nodes := nodes) (shards := shards) (by unfold checkB; rw [← HCK.out, Bool.false_and, Bool.and_false])
    exact ⟨by (rw [this]; rfl), below_then HBX.out HBX.out.size HB.out⟩
   | true =>
    have HPR := Lib.hid (HP.out.below HB.out); have HQR := Lib.hid (blk_below HQ.out HB.out); have HK := Lib.hid (findS_calls wr As cs shards HPR.out.hs HPR.out.ls 50 #[.pointer (some ⟨gp, 0, none⟩)] enter50 (fun x => !rightP nodes x) (fun W hW x hx A1 c1 hC hc => check1_calls W gp V An cn nodes As cs shards (blk_below HQR.out hW) (HPR.out.below hW) x hx A1 c1 hC)); have HBR := Lib.hid (below_then HBX.out HBX.out.size HB.out); clear HB; go_wp2_with fail
    with_reducible refine HK.out.mono ?_
    rintro e w7 ⟨rfl, hb7⟩; have HB7 := Lib.hid (below_then HBR.out HBR.out.size hb7); clear hb7 HK p1 p2
    obtain ⟨k0, hk0⟩ : ∃ k0, ix (fun x => !rightP nodes x) shards = k0 := ⟨_, rfl⟩
    rw [hk0]
    by_cases hk : k0 < 0
    ·
     have hkb : ¬ (0 : Int) ≤ k0 := by omega
     have HALL := Lib.hid (show checkP V nodes shards = 0 by
      unfold checkP checkB; rw [if_pos]; rw [HHD.out, ← HCK.out, Bool.true_and, Bool.true_and, List.all_eq_true]; intro x hx; have := ix_none (by rw [hk0]; exact hk) x hx
      simpa using this)
     clear hk0 hk; go_wp2; go_ret; exact ⟨by (rw [HALL.out]; rfl), HB7.out⟩
    ·
     have hkb : (0 : Int) ≤ k0 := by omega
     have HALL := Lib.hid (show checkP V nodes shards = 50 by
      apply check_no; unfold checkB
      have : shards.all (rightP nodes) = false := by
       rw [← Bool.not_eq_true, List.all_eq_true]; intro hall; obtain ⟨x, hx, h⟩ := ix_some (p := fun x => !rightP nodes x) (l := shards) (by rw [hk0]; exact hk); have := hall x hx; rw [this] at h; cases h
      rw [this, Bool.and_false, Bool.and_false])
     clear hk0 hk; go_wp2; go_ret; exact ⟨by (rw [HALL.out]; rfl), HB7.out⟩
theorem rdL_mid (P S : List (List Ow)) (x : List Ow) (i : Int) (hi : i = P.length) : rd_L4 (P ++ x :: S) i = x := by subst hi; unfold rd_L4; simp
theorem ck_l1 (V : Int) (nodes : List Int) (hns : nodes.length ≤ 9223372036854775807) (shards : List (List Ow)) (hs : shards.length ≤ 9223372036854775807) (hl : ∀ l ∈ shards, l.length ≤ 9223372036854775807) : ∀ (R P : List (List Ow)), shards = P ++ R → Ev (fun k => thermographref14_Check.l1 k (P.length : Int) V nodes shards) (if R.all (rightP nodes) = true then 0 else 50)
 | [], P, h => by
  rw [List.append_nil] at h; rw [if_pos (by simp)]; refine Ev.step (f := fun _ => some 0) (fun k => ?_) (Ev.now _)
  rw [thermographref14_Check.l1, if_neg (by rw [h]; omega)]
 | x :: R, P, h => by
  have hll : shards.length = P.length + R.length + 1 := by rw [h]; simp; omega
  have e : rd_L4 shards (P.length : Int) = x := by rw [h]; exact rdL_mid P R x _ rfl
  have ih := ck_l1 V nodes hns shards hs hl R (P ++ [x]) (by rw [h]; simp); rw [List.length_append, List.length_singleton] at ih; have hsh := shard_ev x (hl x (by rw [h]; simp)) nodes hns shards V; rw [← right_eq] at hsh
  have hstep : ∀ k, thermographref14_Check.l1 (k + 1) (P.length : Int) V nodes shards = (thermographref14_shard.f k V nodes shards x).bind fun t125 => if t125 = true then thermographref14_Check.l1 k ((P.length + 1 : Nat) : Int) V nodes shards else some 50 := fun k => by
   rw [thermographref14_Check.l1, if_pos (by omega), if_pos (by omega), e, w1 _ (by omega)]
  cases hr : rightP nodes x with
  | true =>
   rw [hr] at hsh; rw [List.all_cons, hr, Bool.true_and]
   exact Ev.step hstep (Ev.bind (f := fun k t125 => if t125 = true then thermographref14_Check.l1 k ((P.length + 1 : Nat) : Int) V nodes shards else some 50) hsh (Ev.congr (fun k => by rw [if_pos rfl]) ih))
  | false =>
   rw [hr] at hsh; rw [List.all_cons, hr, Bool.false_and, if_neg (by simp)]; exact Ev.step hstep (Ev.bind (f := fun k t125 => if t125 = true then thermographref14_Check.l1 k ((P.length + 1 : Nat) : Int) V nodes shards else some 50) hsh (Ev.congr (f := fun _ => some 50) (fun k => by rw [if_neg (by simp)]) (Ev.now _)))
theorem ck_l0 (V : Int) (nodes : List Int) (hns : nodes.length ≤ 9223372036854775807) (shards : List (List Ow)) (r : Int) (hr : Ev (fun k => thermographref14_Check.l1 k 0 V nodes shards) r) : ∀ (d i : Nat), i + d = nodes.length → chkN nodes i = true → Ev (fun k => thermographref14_Check.l0 k (i : Int) V nodes shards) (if chkN nodes nodes.length = true then r else 50)
 | 0, i, hd, hc => by
  rw [show nodes.length = i by omega, if_pos hc]; refine Ev.step (fun k => ?_) hr
  rw [thermographref14_Check.l0, if_neg (by omega)]
 | d + 1, i, hd, hc => by
  have hn := chkN_next nodes i; rw [hc, Bool.true_and] at hn
  have mono : chkN nodes (i + 1) = false → chkN nodes nodes.length = false := by
   intro h; rw [← Bool.not_eq_true] at h ⊢; intro h2; apply h; unfold chkN at h2 ⊢; rw [List.all_eq_true] at h2 ⊢; intro j hj; exact h2 j (List.mem_range.2 (by have := List.mem_range.1 hj; omega))
  have ih := fun h => ck_l0 V nodes hns shards r hr d (i + 1) (by omega) h; unfold okN at hn
  cases hnb : nodeB (rd nodes (i : Int)) with
  | false =>
   rw [hnb, Bool.false_and] at hn; rw [if_neg (by rw [mono hn]; simp)]; refine Ev.step (f := fun _ => some 50) (fun k => ?_) (Ev.now _)
   rw [thermographref14_Check.l0, if_pos (by omega), if_pos (by omega), node_eq, hnb, Option.bind_some, if_neg (by simp)]
  | true =>
   rw [hnb, Bool.true_and] at hn
   by_cases hz : i = 0
   ·
    rw [show (i == 0) = true by simpa using hz, Bool.true_or] at hn; refine Ev.step (fun k => ?_) (ih hn); rw [thermographref14_Check.l0, if_pos (by omega), if_pos (by omega), node_eq, hnb, Option.bind_some, if_pos rfl, if_neg (by omega), w1 _ (by omega)]
   ·
    rw [show (i == 0) = false by simpa using hz, Bool.false_or] at hn; have hwm : wrap64 ((i : Int) - 1) = (i : Int) - 1 := by unfold wrap64; omega
    by_cases hp : rd nodes ((i : Int) - 1) < rd nodes (i : Int)
    ·
     rw [decide_eq_true hp] at hn; refine Ev.step (fun k => ?_) (ih hn); rw [thermographref14_Check.l0, if_pos (by omega), if_pos (by omega), node_eq, hnb, Option.bind_some, if_pos rfl, if_pos (by omega), hwm, if_pos (by omega), if_pos (by omega), if_neg (by omega), w1 _ (by omega)]
    ·
     rw [decide_eq_false hp] at hn; rw [if_neg (by rw [mono hn]; simp)]; refine Ev.step (f := fun _ => some 50) (fun k => ?_) (Ev.now _); rw [thermographref14_Check.l0, if_pos (by omega), if_pos (by omega), node_eq, hnb, Option.bind_some, if_pos rfl, if_pos (by omega), hwm, if_pos (by omega), if_pos (by omega), if_pos (by omega)]
theorem ck_ev (V : Int) (nodes : List Int) (hns : nodes.length ≤ 9223372036854775807) (shards : List (List Ow)) (hs : shards.length ≤ 9223372036854775807) (hl : ∀ l ∈ shards, l.length ≤ 9223372036854775807) : Ev (fun k => thermographref14_Check.f k V nodes shards) (checkP V nodes shards) := by
 have h1 := ck_l1 V nodes hns shards hs hl shards [] rfl; have h0 := ck_l0 V nodes hns shards _ h1 nodes.length 0 (by omega) rfl; have bad : Ev (fun k => thermographref14_Check.j0 k true V nodes shards) 50 := Ev.step (f := fun _ => some 50) (fun k => by rw [thermographref14_Check.j0, if_pos rfl]) (Ev.now _); unfold thermographref14_Check.f
 by_cases c0 : V < 1
 ·
  rw [check_bad (.inl (by omega))]; exact Ev.congr (fun k => by rw [if_pos c0]) bad
 by_cases c1 : V > 1099511627776
 ·
  rw [check_bad (.inr (.inl (by omega)))]; exact Ev.congr (fun k => by rw [if_neg c0, if_pos c1]) bad
 by_cases c2 : (nodes.length : Int) < 3
 ·
  rw [check_bad (.inr (.inr (.inl (by omega))))]; exact Ev.congr (fun k => by rw [if_neg c0, if_neg c1, if_pos c2]) bad
 by_cases c3 : (shards.length : Int) < 1
 ·
  rw [check_bad (.inr (.inr (.inr (.inl (by omega)))))]; exact Ev.congr (fun k => by rw [if_neg c0, if_neg c1, if_neg c2, if_pos c3]) bad
 by_cases c4 : (shards.length : Int) > 8
 ·
  rw [check_bad (.inr (.inr (.inr (.inr (by omega)))))]; exact Ev.congr (fun k => by rw [if_neg c0, if_neg c1, if_neg c2, if_neg c3, decide_eq_true c4]) bad
 have hh : head5 V nodes shards = true := by unfold head5; simp only [Bool.and_eq_true, decide_eq_true_eq]; omega
 have hfin : checkP V nodes shards = if chkN nodes nodes.length = true then (if shards.all (rightP nodes) = true then 0 else 50) else 50 := by
  unfold checkP checkB; rw [hh, Bool.true_and]
  cases chkN nodes nodes.length with
  | true => rw [Bool.true_and, if_pos rfl]
  | false => rfl
 rw [hfin]; exact Ev.congr (fun k => by rw [if_neg c0, if_neg c1, if_neg c2, if_neg c3, decide_eq_false c4]) (Ev.step (fun k => by rw [thermographref14_Check.j0, if_neg (by simp)]; rfl) h0)
theorem rcheck_calls (w : World) (V : Int) (An : Option Addr) (cn : Nat) (nodes : List Int) (As : Option Addr) (cs : Nat) (shards : List (List Ow)) (hP : PlAt w An cn nodes As cs shards) :
  Calls Tryz.prog 27 #[.agg #[.int .i64 V, .slice An nodes.length cn, .slice As shards.length cs]] w fun e w' => e = .returned (.int .i64 (checkP V nodes shards)) ∧ Below w.heap.size w w' := by
 obtain ⟨k, hk⟩ := (ck_ev V nodes hP.ln shards hP.ls hP.lsh).rounds; exact thermographref14_Check.calls k V An cn nodes As cs shards _ w hP.hn hP.hcn hP.hs hP.hcs hk
end Pl
end Go.Proofs.YtiinmagnpkfbbaaGreat
