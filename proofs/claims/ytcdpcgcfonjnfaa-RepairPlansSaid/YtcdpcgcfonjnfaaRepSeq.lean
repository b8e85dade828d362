/- maps.Keys at the map of places: what its iterator gives: the keys, each once, in some order. -/
import Derived.Test.YtcdpcgcfonjnfaaRepMaps
import Derived.RangeFuncNested
import Derived.RangeFuncBound
import Derived.RangeFuncCalls
import Derived.RangeFuncLeaves
import Derived.Shelf.Abstract
import Derived.Shelf.RegionOpen
import Derived.WalkKit
import Derived.OwnWalkIn
import Derived.TacticsInMore
import Derived.LoopNIn
import Derived.LoopIn
import Derived.Maps.AppendAt
import Derived.Sort.MapsRangeIn
import Derived.RangeFuncBox
import Derived.Shelf.AbstractIn
import Derived.RegionIn
namespace Go.Proofs.Ytcdpcgcfonjnfaa
set_option linter.unusedVariables false
set_option linter.unusedSimpArgs false
open Go.RowKit Go.Shelf Go.Proofs.YtcdpcgcfonjnfaaW.PrintWords Go.Proofs.YtcdpcgcfonjnfaaW.PrintLast Go.Proofs.YtcdpcgcfonjnfaaW.PrintMore Go.Proofs.Ytcdpcgcfonjnfaa.QT

namespace XM
variable {α β : Type} {P : Program} {k : TypeId} {ek : α → Value} {ev : β → Value} {w : World} {b r : Nat} {m left : List (α × β)}
theorem RangeIs.walks {w' : World} (h : RangeIs P k ek ev w b r m left) (hk : KeepsWalks w w') : RangeIs P k ek ev w' b r m left := by
  obtain ⟨es, clock, since, seen, c0, hb, h1, h2, h3, h4, hr, rest⟩ := h
  exact ⟨es, clock, since, seen, c0, hk.same b _ hb rfl, h1, h2, h3, h4, hk.same r _ hr rfl, rest⟩
theorem RangeIs.left_eq (h : RangeIs P k ek ev w b r m left) : w.rangeLeft b r = left.length := by
  obtain ⟨es, clock, since, seen, c0, hb, h1, h2, h3, h4, hr, _, _, _, hl, _⟩ := h
  unfold World.rangeLeft
  rw [hb, hr]
  have := congrArg List.length hl
  simpa using this
theorem RangeIs.iter (h : RangeIs P k ek ev w b r m left) : ∃ o : Obj, w.heap[r]? = some o ∧ o.isWalk = true := by
  obtain ⟨es, clock, since, seen, c0, hb, h1, h2, h3, h4, hr, _⟩ := h
  exact ⟨_, hr, rfl⟩
variable {F : Fence} {n : Nat} {ops : Array Oper} {rest : List Oper} {o : Oper} {a : Act} {Q : Exit → Act → World → Prop}
theorem wpIn_range (hg : o.guard = none) (mo : Operand) (t : TypeId) (hop : o.op = Op.range t mo) (e : TypeId) (ht : P.underlying t = some (.map k e)) (hm : a.eval mo = .map (some b)) (h : MapIs P k ek ev w b m)
    (hK : ∀ w', RangeIs P k ek ev w' b w.heap.size m m → w.grownBy w' none → w'.heap.size = w.heap.size + 1 → wpListIn F n P ops Q rest (a.put o.dst (.pointer (some ⟨w.heap.size, 0, none⟩))) w') : wpListIn F n P ops Q (o :: rest) a w := by
  refine wpListIn_plain hg fun K' hK' => ?_
  obtain ⟨w', hrun, r1, r2, r3⟩ := h.range ht
  unfold Oper.wpIn
  refine ⟨by simp [Oper.about, hop], ?_⟩
  rw [Oper.semAt_plain F _ _ (by rw [hop]; intro c hc'; cases hc')]
  simp [execOp, hop, hm, hrun, Result.andThen]
  exact hK' _ _ (hK w' r1 r2 r3)
theorem wpIn_next (hg : o.guard = none) (it : Operand) (hop : o.op = Op.next it false) (hit : a.eval it = .pointer (some ⟨r, 0, none⟩)) (h : RangeIs P k ek ev w b r m left)
    (hDone : left = [] → wpListIn F n P ops Q rest (a.put o.dst (.tuple #[.bool false])) w)
    (hMore : ∀ (l1 l2 : List (α × β)) (x : α) (y : β) (w' : World), left = l1 ++ (x, y) :: l2 → RangeIs P k ek ev w' b r m (l1 ++ l2) → w.grownBy w' (some r) → w'.heap.size = w.heap.size →
      (Instr.entry (.pointer (some ⟨r, 0, none⟩))).run P w' = .ok (.tuple #[ek x, ev y]) w' → wpListIn F n P ops Q rest (a.put o.dst (.tuple #[.bool true, ek x, ev y])) w') : wpListIn F n P ops Q (o :: rest) a w := by
  refine wpListIn_plain hg fun K' hK' => ?_
  unfold Oper.wpIn
  refine ⟨by simp [Oper.about, hop], ?_⟩
  rw [Oper.semAt_plain F _ _ (by rw [hop]; intro c hc'; cases hc')]
  rcases h.next o.type with ⟨h0, hrun⟩ | ⟨l1, ⟨x, y⟩, l2, w', hl, hrun, hrg, hgr, hsz, hen⟩
  · simp [execOp, hop, hit, hrun, Result.andThen]
    exact hK' _ _ (hDone h0)
  · simp [execOp, hop, hit, hrun, Result.andThen]
    exact hK' _ _ (hMore l1 l2 x y w' hl hrg hgr hsz hen)
end XM
namespace Rp
set_option maxRecDepth 100000 in
set_option maxHeartbeats 4000000 in
theorem keys1_stops (F : Fence) (n : Nat) (h25 : F.fn 25) (hro : F.round = none) (hn : 1 ≤ n) (gc b : Nat) (m : Pm) (w : World) (hgc : w.heap[gc]? = some (.cells #[.map (some b)] 42 (0, 0))) (hm : PM w b m) :
    SeqStopsK F n Try.prog 25 #[.pointer (some ⟨gc, 0, none⟩)] (fun x : Pc => #[ekP x]) KeepsWalks (fun xs => xs.Perm (XM.keys m)) (fun _ => True) m.length w := by
  intro l J Jx W hW hJ hJx hY h0
  have c0 : W.cell? ⟨gc, 0, none⟩ = some (.map (some b)) := (blk_cell (blk_below hgc hW) 0).trans rfl
  have hM := XM.MapIs.below hm hW
  clear hgc hm
  refine callsIn_of_wp Try.func25 rfl h25 ?_ hro
  rw [show (#[Value.func (.yield l) #[] #[]] ++ #[Value.pointer (some ⟨gc, 0, none⟩)] ++ Array.replicate (Try.f25.ntmps - (#[Value.func (.yield l) #[] #[]] ++ #[Value.pointer (some ⟨gc, 0, none⟩)]).size) undef : Array Value) = #[Value.func (.yield l) #[] #[], Value.pointer (some ⟨gc, 0, none⟩), undef, undef, undef, undef, undef, undef, undef, undef, undef, undef, undef, undef] from rfl]
  gi_wp2_with (first
    | (gi_at_range; refine XM.wpIn_range rfl _ 42 rfl 47 Try.underlying42 rfl hM ?_; intro w0 hrg0 hg0 hs0)
    | gi_in)
  try go_frame
  gi_loopw [3] (fun _ wr => ∃ (left : Pm) (pre : List Pc), XM.RangeIs Try.prog 32 ekP evK wr b W.heap.size m left ∧ pre.length + left.length = m.length ∧ (pre ++ XM.keys left).Perm (XM.keys m) ∧ J pre wr)
    (fun _ wr => wr.rangeLeft b W.heap.size)
  case atStart =>
    exact ⟨m, [], hrg0, by simp, by simp, hJ [] W w0 none h0 hg0 (fun r e => by cases e)⟩
  case round =>
    obtain ⟨left, pre, hrg, hlen, hperm, hJs⟩ := hrel
    gi_wp2_with (first
      | (gi_at_next; refine XM.wpIn_next rfl _ rfl rfl hrg ?_ ?_)
      | gi_in)
    · intro hleft
      gi_wp2_with gi_in
      go_end0
      refine ⟨⟨_, rfl⟩, .inl ⟨pre, ?_, hJs⟩⟩
      rw [hleft] at hperm
      simpa [XM.keys] using hperm
    · intro l1 l2 x y w2 hl hrg2 hg2 hs2 hen
      have hJ2 : J pre w2 := hJ pre wr w2 (some W.heap.size) hJs hg2 (fun r e => by cases e; exact ⟨Nat.le_refl _, hrg.iter⟩)
      have hlt : pre.length < m.length := by rw [hl] at hlen; simp at hlen; omega
      have hJ3 : ∀ o, J pre (w2.alloc o) := fun o => hJ pre w2 (w2.alloc o) none hJ2 (World.grownBy_alloc w2 o none) (fun r e => by cases e)
      obtain ⟨fn, tmps, assign, body, hy, hR⟩ := hY pre x _ (hJ3 (.cells #[.string x.f0, .int .i64 x.f1] 32)) hlt
      simp only [ekP, evK] at hen hy ⊢
      clear hs2
      gi_wp2_with gi_in
      refine hR.mono ?_
      have hrgA := XM.RangeIs.below hrg2 (below_alloc (Below.refl _ w2) (.cells #[.string x.f0, .int .i64 x.f1] 32))
      rintro e W3 (⟨rfl, hJ4, hk3⟩ | ⟨rfl, hJx3⟩)
      · gi_wp2_with gi_in
        have hrg3 := hrgA.walks hk3
        go_roundw
        case rel =>
          refine ⟨l1 ++ l2, pre ++ [x], hrg3, by rw [hl] at hlen; simp at hlen ⊢; omega, ?_, hJ4⟩
          refine List.Perm.trans ?_ hperm
          rw [hl]
          unfold XM.keys
          simp only [List.map_append, List.map_cons, List.append_assoc, List.singleton_append]
          refine List.Perm.append_left pre ?_
          exact (List.perm_middle).symm
        case measure =>
          rw [hrg3.left_eq, hrg.left_eq, hl]
          simp
      · gi_wp2_with gi_in
        refine bodyPost_ret (results_none rfl _ _ _) rfl ?_
        exact ⟨⟨_, rfl⟩, .inr ⟨pre ++ [x], by first | exact hJx3 | exact ⟨trivial, hJx3⟩⟩⟩
end Rp
end Go.Proofs.Ytcdpcgcfonjnfaa
