/- peers.Page: the predicate of its DeleteFunc; what it deletes; the page. -/
import Derived.Test.YtgagcimfkmegnaaSortMeta
set_option maxHeartbeats 4000000
namespace Go.Proofs.Ytgagcimfkmegnaa
set_option linter.unusedVariables false
set_option linter.unusedSimpArgs false
open Go.RowKit Go.Proofs.YtgagcimfkmegnaaW.PrintWords Go.Proofs.YtgagcimfkmegnaaW.PrintLast Go.Proofs.YtgagcimfkmegnaaW.PrintMore Go.Proofs.Ytgagcimfkmegnaa.QT Go.Proofs.Ytgagcimfkmegnaa.StableLaw
theorem page1 (cur x : S25) (cb : Nat) (W : World) (c0 : W.cell? ⟨cb, 0, none⟩ = some (.string cur.f0)) (c1 : W.cell? ⟨cb, 1, none⟩ = some (.int .i64 cur.f1)) (c2 : W.cell? ⟨cb, 2, none⟩ = some (.int .i64 cur.f2)) (c3 : W.cell? ⟨cb, 3, none⟩ = some (.int .u32 cur.f3)) (hlt : cb < W.heap.size) :
  Calls Try.prog 26 #[.agg #[.string x.f0, .int .i64 x.f1, .int .i64 x.f2, .int .u32 x.f3], .pointer (some ⟨cb, 0, none⟩)] W fun e w' => e = .returned (.bool (past cur x)) ∧ Below W.heap.size W w' := by
 obtain ⟨K, hK⟩ := (order_ev x cur).rounds; have HC := Lib.hid (fun (w : World) => QS.peers_order.calls K _ _ _ _ _ _ _ _ _ w hK); clear hK
 obtain ⟨o, ho⟩ : ∃ o, ordM x cur = o := ⟨_, rfl⟩
 have hp : past cur x = decide (o ≤ 0) := by unfold past; rw [ho]
 rw [hp]; rw [ho] at HC; clear ho hp; have d0 : (W.alloc (.cells #[.string x.f0, .int .i64 x.f1, .int .i64 x.f2, .int .u32 x.f3] 25)).cell? ⟨cb, 0, none⟩ = some (.string cur.f0) := Lib.cell?_alloc_some _ c0; have d1 : (W.alloc (.cells #[.string x.f0, .int .i64 x.f1, .int .i64 x.f2, .int .u32 x.f3] 25)).cell? ⟨cb, 1, none⟩ = some (.int .i64 cur.f1) := Lib.cell?_alloc_some _ c1; have d2 : (W.alloc (.cells #[.string x.f0, .int .i64 x.f1, .int .i64 x.f2, .int .u32 x.f3] 25)).cell? ⟨cb, 2, none⟩ = some (.int .i64 cur.f2) := Lib.cell?_alloc_some _ c2; have d3 : (W.alloc (.cells #[.string x.f0, .int .i64 x.f1, .int .i64 x.f2, .int .u32 x.f3] 25)).cell? ⟨cb, 3, none⟩ = some (.int .u32 cur.f3) := Lib.cell?_alloc_some _ c3; have Hb := Lib.hid ((Below.refl W.heap.size W).alloc (Nat.le_refl _) (.cells #[.string x.f0, .int .i64 x.f1, .int .i64 x.f2, .int .u32 x.f3] 25)); clear c0 c1 c2 c3; go_enter Try.func26, Try.ntmps26
 go_wp2_with fail
 with_reducible refine (HC.out _).mono ?_
 rintro e w1 ⟨rfl, hb1⟩; have Hb1 := Lib.hid hb1; clear hb1 d0 d1 d2 d3; go_wp2; go_ret; exact ⟨rfl, below_then Hb.out Hb.out.size Hb1.out⟩
theorem index_nil (f : Value) (w : World) : Calls Try.prog 39 #[.slice none 0 0, f] w fun e w' => e = .returned (.int .i64 (-1)) ∧ Below w.heap.size w w' := by
 have H0 := Lib.hid (Below.refl w.heap.size w); go_enter Try.func39, Try.ntmps39
 go_wp2; go_loopg [8] 1 (fun gg s8 wr => s8 = .int .i64 0 ∧ Hid (Below w.heap.size w wr))
 case atStart => exact ⟨rfl, H0⟩
 case round =>
  obtain ⟨rfl, H⟩ := hrel; go_wp2; go_ret; exact ⟨rfl, H.out⟩
theorem delete_nil (f : Value) (w : World) : Calls Try.prog 24 #[.slice none 0 0, f] w fun e w' => e = .returned (.slice none 0 0) ∧ Below w.heap.size w w' := by
 have HI := Lib.hid (index_nil f w); go_enter Try.func24, Try.ntmps24
 go_wp2_with fail
 with_reducible refine HI.out.mono ?_
 rintro e w1 ⟨rfl, hb1⟩; have Hb1 := Lib.hid hb1; clear hb1; go_wp2; go_ret; exact ⟨rfl, Hb1.out⟩
theorem sort_ev (l : List S25) (hb : l.length ≤ 549755813888) : Ev (fun k => QS.api_Meta_28.f k l) (srtM l) := by
 obtain ⟨r, hr, hev⟩ := sortMeta l hb; rw [Srt.unique ordLt (srtM l) r ((srtM_srt l).same.trans hr.same.symm) (srtM_srt l).up hr.up]; exact hev
def peers_Page.f (l : List S25) (a1 : Int) (a2 : ByteArray) : Option (List S25 × Bool) :=
 if l.length ≤ 549755813888 then (if (behind l a1 a2).length ≤ 8 then some (behind l a1 a2, false) else some ((behind l a1 a2).take 8, true)) else none
theorem enter_page1 : ∀ args w, (callFunc 26 args).run Try.prog w = .ok (.enter 26 args) w := fun args w => by kernel_rfl
/-- DeleteFunc at a row, nil or not. -/
theorem delete_any (p : S25 → Bool) (g : Nat) (cb : Array Value) (eg : ∀ args w, (callFunc g args).run Try.prog w = .ok (.enter g args) w) (base : Nat) (P0 : Nat → Prop) (v : Value) (l : List S25) (w : World)
  (hR : Kd.R k25 25 w base P0 v l) (hp : ∀ gb, v.ownBlock = some gb → Answers w (some gb) g cb p) :
  Calls Try.prog 24 #[v, .func (.func g) #[] cb] w fun e w' => ∃ v', e = .returned v' ∧ Kd.R k25 25 w' base P0 v' (l.filter fun x => !p x) ∧ w.grownBy w' v.ownBlock := by
 obtain ⟨inner, ho⟩ := Kd.R_own hR
 rcases ho with ⟨_, ⟨rfl, h0⟩ | ⟨gb, cap, cur, rfl, _⟩⟩
 ·
  have hl := List.eq_nil_of_length_eq_zero h0; subst hl
  exact (delete_nil _ w).mono fun e w' ⟨he, hb⟩ => ⟨_, he, Kd.R_nil _ _ _ _ _, grown_of_below hb _⟩
 ·
  exact (delete_meta p g cb eg base P0 gb cap l.length l w hR (hp gb rfl)).mono fun e w' ⟨he, hR', hg⟩ => ⟨_, he, hR', hg⟩
theorem peers_Page.calls (A0 : Option Addr) (c0 : Nat) (l0 : List (S25)) (a1 : Int) (a2 : ByteArray) (r1 : List (S25)) (r2 : Bool) (w : World) (hr0 : Kd.C k25 w A0 l0.length l0) (hc0 : l0.length ≤ c0) (h : peers_Page.f l0 a1 a2 = some (r1, r2)) :
  Calls Try.prog 6 #[.slice A0 l0.length c0, .int .i64 a1, .string a2] w fun e w' => ∃ v0_ : Value, e = .returned (.tuple #[v0_, .bool r2]) ∧ Kd.R k25 25 w' w.heap.size (fun _ => True) v0_ r1 ∧ Below w.heap.size w w' := by
 unfold peers_Page.f at h
 split at h
 case isFalse => cases h
 case isTrue hbound =>
 have Hbound := Lib.hid hbound; have H := Lib.hid h
 obtain ⟨o, ho⟩ : ∃ o, Obj.cells #[Value.string a2, Value.int IntKind.i64 a1, Value.int IntKind.i64 0, Value.int IntKind.u32 0] 25 = o := ⟨_, rfl⟩
 have hbx := blk_new w o; rw [← ho] at hbx; have HB1 := Lib.hid ((Below.refl w.heap.size w).alloc (Nat.le_refl _) (.cells #[Value.string a2, Value.int IntKind.i64 a1, Value.int IntKind.i64 0, Value.int IntKind.u32 0] 25)); have HC := Lib.hid (clone_Meta.calls A0 c0 l0 l0 _ (Kd.C_alloc hr0 (.cells #[Value.string a2, Value.int IntKind.i64 a1, Value.int IntKind.i64 0, Value.int IntKind.u32 0] 25)) hc0 (by unfold clone_Meta.f; rw [if_pos (by omega)])); have Hbx := Lib.hid hbx; subst ho; clear h hr0 hbound hbx; go_enter Try.func6, Try.ntmps6
 go_wp2_with fail
 with_reducible refine HC.out.mono ?_
 rintro e w2 ⟨v2, rfl, hR2, hb2⟩
 have hans : ∀ gb, v2.ownBlock = some gb → Answers w2 (some gb) 26 #[.pointer (some ⟨w.heap.size, 0, none⟩)] (past ⟨a2, a1, 0, 0⟩) := by
  intro gb hgb W hg x; have hlt : w.heap.size < (w.alloc (.cells #[Value.string a2, Value.int IntKind.i64 a1, Value.int IntKind.i64 0, Value.int IntKind.u32 0] 25)).heap.size := by simp
  have hne : gb ≠ w.heap.size := by
   have := Kd.R_base hR2 gb hgb; omega
  have hbk := blk_below Hbx.out hb2; have hbk2 : W.heap[w.heap.size]? = some (.cells #[Value.string a2, Value.int IntKind.i64 a1, Value.int IntKind.i64 0, Value.int IntKind.u32 0] 25) := (hg.block _ (Nat.lt_of_lt_of_le hlt hb2.size) (by simp; exact fun h => hne h.symm)).trans hbk; exact page1 ⟨a2, a1, 0, 0⟩ x w.heap.size W ((blk_cell hbk2 0).trans rfl) ((blk_cell hbk2 1).trans rfl) ((blk_cell hbk2 2).trans rfl) ((blk_cell hbk2 3).trans rfl) (blk_lt hbk2)
 have HD := Lib.hid (delete_any (past ⟨a2, a1, 0, 0⟩) 26 #[.pointer (some ⟨w.heap.size, 0, none⟩)] enter_page1 _ _ v2 l0 w2 hR2 hans); have HB2 := Lib.hid hb2; have HR2 := Lib.hid hR2; clear hb2 hR2 hans; go_wp2_with fail
 with_reducible refine HD.out.mono ?_
 rintro e w3 ⟨v3, rfl, hR3, hg3⟩; have hB2 := below_then HB1.out HB1.out.size HB2.out; have hB3 := hB2.grown hg3 hB2.size (fun k hk => Nat.le_trans HB1.out.size (Kd.R_base HR2.out k hk)); have hR3' := Kd.R_lower hR3 HB1.out.size; have hfl : (l0.filter (fun x => !past ⟨a2, a1, 0, 0⟩ x)).length ≤ l0.length := List.length_filter_le _ _; obtain ⟨K, hK⟩ := (sort_ev (l0.filter (fun x => !past ⟨a2, a1, 0, 0⟩ x)) (Nat.le_trans hfl Hbound.out)).rounds; have HS := Lib.hid (QS.api_Meta_28.calls K _ _ _ _ w w3 hB3 hR3' hK); obtain ⟨A3, cap3, hv3⟩ := Kd.R_slice hR3
 obtain ⟨n3, hn3⟩ : ∃ n3, (l0.filter (fun x => !past ⟨a2, a1, 0, 0⟩ x)).length = n3 := ⟨_, rfl⟩
 rw [hn3] at hv3; subst hv3; clear hR3 hg3 hB2 hB3 hR3' hfl hK hn3; go_wp2_with fail
 with_reducible refine HS.out.mono ?_
 rintro e w4 ⟨rfl, hR4, hB4, hK4⟩; obtain ⟨hn4, hc4, hC4⟩ := Kd.R_reads' hR4; change n3 = (behind l0 a1 a2).length at hn4; have HR4 := Lib.hid hR4; have HB4 := Lib.hid hB4; have HC4 : Hid (Kd.C k25 w4 A3 (behind l0 a1 a2).length (behind l0 a1 a2)) := Lib.hid hC4; have Hn4 := Lib.hid hn4; clear hR4 hB4 hC4 hK4 hn4
 by_cases h8 : n3 ≤ 8
 ·
  have hle : (n3 : Int) ≤ 8 := by omega
  go_wp2; go_ret2; have h := H.out; rw [if_pos (by have := Hn4.out; omega)] at h; simp only [Option.some.injEq, Prod.mk.injEq] at h; obtain ⟨rfl, rfl⟩ := h; exact ⟨_, rfl, Kd.R_mono HR4.out (fun _ _ => trivial), HB4.out⟩
 ·
  have hle : ¬ (n3 : Int) ≤ 8 := by omega
  have htl : ((behind l0 a1 a2).take 8).length = 8 := by rw [List.length_take]; have := Hn4.out; omega
  have HC5 := clone_Meta.calls A3 cap3 ((behind l0 a1 a2).take 8) ((behind l0 a1 a2).take 8) w4 (Kd.C_take HC4.out (by have := Hn4.out; omega)) (by omega) (by unfold clone_Meta.f; rw [htl]; rfl); rw [htl] at HC5; have HC5 := Lib.hid HC5; have hcap8 : (8 : Int) ≤ (cap3 : Int) := by omega
  clear htl; go_wp2_with fail
  with_reducible refine HC5.out.mono ?_
  rintro e w5 ⟨v5, rfl, hR5, hB5⟩; have HR5 := Lib.hid hR5; have HB5 := Lib.hid hB5; clear hR5 hB5; go_wp2; go_ret2; have h := H.out; rw [if_neg (by have := Hn4.out; omega)] at h; simp only [Option.some.injEq, Prod.mk.injEq] at h; obtain ⟨rfl, rfl⟩ := h; exact ⟨_, rfl, Kd.R_lower HR5.out HB4.out.size, below_then HB4.out HB4.out.size HB5.out⟩
end Go.Proofs.Ytgagcimfkmegnaa
