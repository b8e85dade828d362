/- slices.AppendSeq, Collect at the keys of a map of places. -/
import Derived.Test.YtcdpcgcfonjnfaaRepSeq
import Derived.Test.YtcdpcgcfonjnfaaRepSort
namespace Go.Proofs.Ytcdpcgcfonjnfaa
set_option linter.unusedVariables false
set_option linter.unusedSimpArgs false
open Go.RowKit Go.Shelf Go.Proofs.YtcdpcgcfonjnfaaW.PrintWords Go.Proofs.YtcdpcgcfonjnfaaW.PrintLast Go.Proofs.YtcdpcgcfonjnfaaW.PrintMore Go.Proofs.Ytcdpcgcfonjnfaa.QT
attribute [local go_sem] Oper.semAt_some
namespace Rp
theorem infoPl : (Try.prog.info? 32).map (fun i => (i.zero, i.size, i.bytes)) = some (some (.agg #[.string ⟨#[]⟩, .int .i64 0]), 2, 24) := by kernel_rfl
/-- A block of cells speaks of cells alone. -/
theorem cells_own {β : Type} (g : Nat) (cs : Array Value) (t : TypeId) (fr : Nat × Nat) : Own (fun (_ : β) W => W.heap[g]? = some (.cells cs t fr)) := fun s X Y row hs hg hrow =>
  (hg.block g (blk_lt hs) (fun e => by obtain ⟨o, ho, hc⟩ := hrow g e.symm; rw [hs] at ho; cases ho; cases hc)).trans hs
/-- The temporaries of a round: the variable's block is told. -/
def roundAct (B gc Bx : Nat) (x : Pc) : Act := { tmps := #[.slice none 0 0, .func (.func 25) #[] #[.pointer (some ⟨gc, 0, none⟩)], .pointer (some ⟨B, 0, none⟩), undef, .slice none 0 0, .pointer (some ⟨Bx, 0, none⟩), .func (.func 25) #[] #[.pointer (some ⟨gc, 0, none⟩)], .agg #[.string x.f0, .int .i64 x.f1], undef, undef, undef, undef, undef], defers := [] }
theorem cell_two_new (w : World) (x y : Value) (t : TypeId) : ∀ j u, [x, y][j]? = some u → (w.alloc (.cells #[x, y] t)).cell? ((⟨w.heap.size, 0, none⟩ : Addr).add j) = some u := by
  intro j u hj
  have hb := blk_new w (.cells #[x, y] t)
  match j, hj with
  | 0, hj => simp at hj; subst hj; have h := (blk_cell hb 0).trans rfl; first | exact h | (simp [Addr.add]; done)
  | 1, hj => simp at hj; subst hj; have h := (blk_cell hb 1).trans rfl; first | exact h | (simp [Addr.add]; done)
set_option maxRecDepth 100000 in
set_option maxHeartbeats 4000000 in
theorem append_seq (F : Fence) (n : Nat) (h30 : F.fn 30) (h25 : F.fn 25) (hro : F.round = none) (hn : 2 ≤ n) (gc b : Nat) (m : Pm) (w : World) (hgc : w.heap[gc]? = some (.cells #[.map (some b)] 42 (0, 0))) (hm : PM w b m) (hml : m.length ≤ 1000000) :
    CallsIn F n Try.prog 30 #[.slice none 0 0, .func (.func 25) #[] #[.pointer (some ⟨gc, 0, none⟩)]] w fun e w' => ∃ (v : Value) (ks : List Pc), e = .returned v ∧ ks.Perm (XM.keys m) ∧ w'.ownsRow w.heap.size 32 2 v ks.length (ks.flatMap cellsPl2) ∧ Below w.heap.size w w' := by
  have h1 : 1 ≤ n := by omega
  have e25 : ∀ args w, (callFunc 25 args).run Try.prog w = .ok (.enter 25 args) w := enters_of Try.func25 (by kernel_rfl) rfl
  obtain ⟨i0, hi, hz0, hz1, hz2⟩ := info_parts infoPl
  refine callsIn_of_wp_marks Try.func30 rfl h30 ?_ hro
  rw [show (#[Value.slice none 0 0, Value.func (.func 25) #[] #[.pointer (some ⟨gc, 0, none⟩)]] ++ Array.replicate (Try.f30.ntmps - (#[Value.slice none 0 0, Value.func (.func 25) #[] #[.pointer (some ⟨gc, 0, none⟩)]]).size) undef : Array Value) = #[.slice none 0 0, .func (.func 25) #[] #[.pointer (some ⟨gc, 0, none⟩)], undef, undef, undef, undef, undef, undef, undef, undef, undef, undef, undef] from rfl]
  gi_wp2_with gi_in
  obtain ⟨W0, hW0⟩ : ∃ W0 : World, w.alloc (.cells #[.slice none 0 0] 25) = W0 := ⟨_, rfl⟩
  have hBox : Boxed W0 w.heap.size 25 (.slice none 0 0) := by rw [← hW0]; exact Boxed.new w 25 _
  have hb0 : Below w.heap.size w W0 := by rw [← hW0]; exact below_alloc (Below.refl _ w) _
  have hs0 : W0.heap.size = w.heap.size + 1 := by rw [← hW0]; simp
  have hgc0 := blk_below hgc hb0
  have hm0 : PM W0 b m := XM.MapIs.below hm hb0
  rw [hW0]
  refine wpIn_rangeFunc_ownH (gf := 25) (lb := #[.pointer (some ⟨gc, 0, none⟩)]) (Kp := KeepsWalks) hro h1 rfl h25 e25 (keys1_stops F (n - 1) h25 hro (by omega) gc b m W0 hgc0 hm0) walksK_t walksK_b (Below.refl _ _) (fun _ => rfl)
    (fun pre W => (∃ v, Boxed W w.heap.size 25 v ∧ W.ownsRow w.heap.size 32 2 v pre.length (pre.flatMap cellsPl2) ∧ True) ∧ Below w.heap.size w W) (fun _ _ _ => False)
    (OwnFrom.and (Own.from (holdsRow_own w.heap.size w.heap.size 25 32 2 (fun pre : List Pc => pre.length) (fun pre => pre.flatMap cellsPl2) (fun _ _ => True)) _) (ownFrom_below (Nat.le_refl _) (by omega)))
    (fun c s W W' row h _ _ => h) ⟨⟨_, hBox, World.ownsRow_nil _ _ _ _, trivial⟩, hb0⟩
    (fun x a' W => ∃ Bx, w.heap.size < Bx ∧ W.heap[Bx]? = some (.cells #[.string x.f0, .int .i64 x.f1] 32 (0, 0)) ∧ a' = roundAct w.heap.size gc Bx x)
    (fun x a' s W W' row ⟨Bx, h1, h2, h3⟩ hg hr => ⟨Bx, h1, cells_own (β := Unit) Bx _ 32 (0, 0) () W W' row h2 hg (fun r e => (hr r e).2), h3⟩) ?assign ?body ?done ?stop
  case assign =>
    rintro l pre x W K ⟨⟨v, hv, hrow, _⟩, hB⟩ hK
    simp only [ekP]
    gi_wp2_with gi_in
    refine hK _ _ ((KeepsOthers.alloc _ _).from _) (KeepsWalks.alloc _ _) ⟨⟨v, hv.alloc _, hrow.alloc _, trivial⟩, below_then hB hB.size (below_alloc (Below.refl _ _) _)⟩ ⟨W.heap.size, ?_, blk_new W _, rfl⟩
    exact hv.lt
  case body =>
    rintro l pre x a' W hl ⟨r, hr⟩ ⟨⟨v, hv, hrow, _⟩, hB⟩ ⟨Bx, hBx, bX, rfl⟩ hlt
    have hc0 := hv.cell
    have hf0 := hv.frozen
    have x0 : W.cell? ⟨Bx, 0, none⟩ = some (.string x.f0) := (blk_cell bX 0).trans rfl
    have x1 : W.cell? ⟨Bx, 1, none⟩ = some (.int .i64 x.f1) := (blk_cell bX 1).trans rfl
    have hBs := hB.size
    unfold roundAct
    gi_wp2_with (first
      | (gi_at_builtin; refine wpListIn_append_own _ rfl _ _ 25 rfl w.heap.size 32 i0 (.agg #[.string ⟨#[]⟩, .int .i64 0]) 2 24 Try.underlying25 hi hz0 hz1 hz2 rfl (by decide) _ _ _ rfl (hrow.alloc _) ⟨W.heap.size, 0, none⟩ 1 1 [.string x.f0, .int .i64 x.f1] rfl rfl (cell_two_new _ _ _ _) (by simp [Value.oneCell']) (by unfold maxLen; omega) (by omega) (by simp; omega) ?_; intro v' w1 hown' hgrow _; obtain ⟨g', cap', rfl⟩ := ownsRow_succ hown'; obtain ⟨hv1, hv2, hr2, hk2, hb2⟩ := hv.appended (by decide) hrow hB.size (Nat.le_refl _) hown' hgrow; have hc1 := hv1.cell; have hf1 := hv1.frozen)
      | gi_in)
    refine ⟨hk2.from _, hk2.walks, ⟨⟨_, hv2, ?_, trivial⟩, hB.trans hb2⟩⟩
    have e : (pre ++ [x]).flatMap cellsPl2 = pre.flatMap cellsPl2 ++ [.string x.f0, .int .i64 x.f1] := by simp [cellsPl2]
    rw [e, List.length_append]
    exact hr2
  case done =>
    rintro D xs W hD hS ⟨⟨v, hv, hrow, _⟩, hB⟩ hK
    have hc0 := hv.cell
    gi_wp2_with gi_in
    refine ⟨by simp, .inl ⟨_, _, rfl, run_takeDeferred hK, ?_⟩⟩
    exact ⟨_, results_tmp rfl _ _ _, v, xs, rfl, hS, ownsRow_putObj hrow _ hK rfl, hB.trans (belowK_b (w := w) (Nat.le_refl _) W D _ _ (by omega) hK rfl rfl)⟩
  case stop =>
    rintro D c pre W hD _ hf _
    exact hf.elim
end Rp
end Go.Proofs.Ytcdpcgcfonjnfaa
