/- slices.Clone, IndexFunc, DeleteFunc, SortFunc at Ranges. -/
import Derived.Shelf.SlicesE.Clone
import Derived.Shelf.SlicesE.DeleteFunc
import Derived.Shelf.SlicesQ.IndexFunc
import Derived.Test.YtiinmagnpkfbbaaGreatQT5
import Derived.Test.YtiinmagnpkfbbaaGreatQT6
import Derived.Test.YtiinmagnpkfbbaaGreatQT12
section
namespace Go.Proofs.YtiinmagnpkfbbaaGreat
open Go.RowKit Go.Proofs.YtiinmagnpkfbbaaGreatW.PrintWords Go.Proofs.YtiinmagnpkfbbaaGreatW.PrintLast Go.Proofs.YtiinmagnpkfbbaaGreatW.PrintMore
section
variable {P : Program}
theorem run_clear_row (w : World) (t e ty : TypeId) (z : Value) (zc : Array Value) (ht : P.underlying t = some (.slice e)) (hv : ∀ w, (zeroValue e).run P w = .ok z w) (hz : z.cells = zc) (h1 : ∀ v ∈ zc, v.oneCell' = true) (b o n c : Nat) (hn : 0 < n)
  (hc : ∀ j, j < n * zc.size → (w.cell? ⟨b, o + j, none⟩).isSome = true) (hf : ∀ j, j < n * zc.size → w.frozen? ⟨b, o + j, none⟩ = false) :
  (Builtin.clear_ #[t] ty #[.slice (some ⟨b, o, none⟩) n c]).run P w = .ok (.tuple #[]) (w.setCells b o (Builtin.zeroCells zc n).toList) := by
 have hl : (Builtin.zeroCells zc n).toList.length = n * zc.size := by simp [Builtin.zeroCells]
 have hm : ∀ v ∈ (Builtin.zeroCells zc n).toList, v.oneCell' = true := by
  intro v hv'; simp only [Builtin.zeroCells, Array.toList_map, List.mem_map] at hv'; obtain ⟨j, hj, rfl⟩ := hv'; rcases Nat.eq_zero_or_pos zc.size with h0 | h0
  ·
   exfalso
   simp [h0] at hj
  ·
   have hlt := Nat.mod_lt j h0
   first
    | exact h1 _ (by simp [hlt])
 have hst := run_storeCells_cells (P := P) b o (Builtin.zeroCells zc n).toList 0 w (by rw [hl]; simpa using hc) (by rw [hl]; simpa using hf) hm; simp only [Nat.add_zero] at hst
 obtain ⟨m, rfl⟩ : ∃ m, n = m + 1 := ⟨n - 1, by omega⟩
 simp [Builtin.clear_, run_underlying ht, hv, hz, hst]
end
theorem heap_setCell_at (w : World) (g o : Nat) (v : Value) (cur : Array Value) (e : TypeId) (fr : Nat × Nat) (h : w.heap[g]? = some (.cells cur e fr)) : (w.setCell ⟨g, o, none⟩ v).heap[g]? = some (.cells (cur.setIfInBounds o v) e fr) := by
 simp [World.setCell, Array.getElem?_modify, h]
theorem own_past {w : World} {base : Nat} {e : TypeId} {size n g cap o : Nat} {xs : List Value} (h : w.ownsRow base e size (.slice (some ⟨g, 0, none⟩) n cap) n xs) (ho : n * size ≤ o) (v : Value) : (w.setCell ⟨g, o, none⟩ v).ownsRow base e size (.slice (some ⟨g, 0, none⟩) n cap) n xs := by
 obtain ⟨h1, h2⟩ := h; rcases h2 with ⟨hx, _⟩ | ⟨g', cap', cur, hx, hb, hh, hn, hm, hs, ht⟩
 ·
  cases hx
 ·
  cases hx; refine ⟨h1, .inr ⟨g, cap, cur.setIfInBounds o v, rfl, hb, heap_setCell_at w g o v cur e (0, 0) hh, hn, hm, by simpa using hs, ?_⟩⟩; rw [← ht]; apply List.ext_getElem?; intro i
  by_cases hi : i < n * size
  ·
   rw [List.getElem?_take_of_lt hi, List.getElem?_take_of_lt hi]; simp only [Array.getElem?_toList, Array.getElem?_setIfInBounds]; rw [if_neg (by omega)]
  ·
   rw [List.getElem?_eq_none (by rw [List.length_take]; omega), List.getElem?_eq_none (by rw [List.length_take]; omega)]
namespace Past
open Kd
variable {α : Type} {d : Kd α} {e : Nat} {w : World} {base : Nat} {ok : Nat → Prop} {xs : List α} {g n cap : Nat}
theorem R_past1 (h : d.R e w base ok (.slice (some ⟨g, 0, none⟩) n cap) xs) (o : Nat) (ho : xs.length * d.sz ≤ o) (v : Value) : d.R e (w.setCell ⟨g, o, none⟩ v) base ok (.slice (some ⟨g, 0, none⟩) n cap) xs := by
 obtain ⟨hn, _, _⟩ := Kd.R_reads' h; subst hn; obtain ⟨h0, inner, ho1, hr⟩ := h; refine ⟨h0, inner, own_past ho1 ho v, hr.imp_ (fun x cs hM => ?_)⟩; exact Kd.M_step hM (fun k hk _ => Below.heap_setCell w ⟨g, o, none⟩ v k (fun e_ => hk.2 (by subst e_; rfl)))
theorem grown_setCell (w : World) (g o : Nat) (v : Value) : w.grownBy (w.setCell ⟨g, o, none⟩ v) (some g) :=
 ⟨rfl, rfl, rfl, by simp [World.setCell], fun k hk hne => Below.heap_setCell w ⟨g, o, none⟩ v k (fun e_ => hne (by rw [e_]))⟩
theorem R_past : ∀ (vs : List Value) (o : Nat) (w : World), d.R e w base ok (.slice (some ⟨g, 0, none⟩) n cap) xs → xs.length * d.sz ≤ o → d.R e (w.setCells g o vs) base ok (.slice (some ⟨g, 0, none⟩) n cap) xs ∧ w.grownBy (w.setCells g o vs) (some g)
 | [], o, w, h, _ => ⟨h, ⟨rfl, rfl, rfl, Nat.le_refl _, fun _ _ _ => rfl⟩⟩
 | v :: vs, o, w, h, ho => by
  obtain ⟨h2, g2⟩ := R_past vs (o + 1) (w.setCell ⟨g, o, none⟩ v) (R_past1 h o ho v) (by omega); have g1 := grown_setCell w g o v; exact ⟨h2, ⟨g2.os.trans g1.os, g2.tape.trans g1.tape, g2.output.trans g1.output, Nat.le_trans g1.size g2.size, fun k hk hne => (g2.block k (Nat.lt_of_lt_of_le hk g1.size) hne).trans (g1.block k hk hne)⟩⟩
end Past
end Go.Proofs.YtiinmagnpkfbbaaGreat
end
section
namespace Go.Proofs
open Go.Shelf
def Tryz.indexRange_ren : Go.Shelf.Ren := ⟨fun | 6 => 78 | n => n, fun | 22 => 50 | 23 => 27 | 25 => 89 | 3 => 3 | 0 => 0 | 4 => 4 | n => n, fun | n => n⟩
theorem Tryz.indexRange : Go.Proofs.SlLaysH0.n6 Tryz.prog Tryz.indexRange_ren := {
 mixed := by kernel_rfl
 f6 := ⟨Tryz.f78.name, by decide, Tryz.func78.trans (congrArg some (by kernel_rfl))⟩
 t0 := Tryz.underlying0
 a0 := Tryz.isAgg0
 z0 := Tryz.sizeOf0
 v0 := Tryz.zeroValue0
 t3 := Tryz.underlying3
 a3 := Tryz.isAgg3
 z3 := Tryz.sizeOf3
 v3 := Tryz.zeroValue3
 t4 := Tryz.underlying4
 a4 := Tryz.isAgg4
 z4 := Tryz.sizeOf4
 v4 := Tryz.zeroValue4
 t22 := Tryz.underlying50
 a22 := Tryz.isAgg50
 z22 := Tryz.sizeOf50
 v22 := Tryz.zeroValue50
 t25 := Tryz.underlying89
 a25 := Tryz.isAgg89
 z25 := Tryz.sizeOf89
 v25 := Tryz.zeroValue89 }
def Tryz.cloneRange_ren : Go.Shelf.Ren := ⟨fun | 41 => 43 | n => n, fun | 22 => 50 | 23 => 27 | 4 => 4 | n => n, fun | n => n⟩
theorem Tryz.cloneRange : Go.Proofs.SlLaysE0.n41 Tryz.prog Tryz.cloneRange_ren := {
 mixed := by kernel_rfl
 f41 := ⟨Tryz.f43.name, by decide, Tryz.func43.trans (congrArg some (by kernel_rfl))⟩
 t4 := Tryz.underlying4
 a4 := Tryz.isAgg4
 z4 := Tryz.sizeOf4
 v4 := Tryz.zeroValue4
 t22 := Tryz.underlying50
 a22 := Tryz.isAgg50
 z22 := Tryz.sizeOf50
 v22 := Tryz.zeroValue50 }
def Tryz.sortRange_ren : Go.Shelf.Ren := ⟨fun | 6 => 54 | 15 => 80 | 14 => 79 | 28 => 99 | 29 => 100 | 20 => 91 | 21 => 92 | 22 => 93 | 23 => 94 | 24 => 95 | 25 => 96 | 26 => 97 | 27 => 98 | 46 => 118 | 47 => 119 | 48 => 120 | 49 => 121 | 50 => 122 | 57 => 130 | n => n, fun | 22 => 50 | 24 => 27 | 25 => 92 | 3 => 3 | 39 => 117 | 0 => 0 | 53 => 132 | 55 => 97 | 4 => 4 | 46 => 125 | 45 => 124 | 50 => 129 | 5 => 5 | 9 => 9 | 66 => 145 | 70 => 149 | 76 => 155 | 77 => 156 | n => n, fun | n => n⟩
theorem Tryz.sortRange : Go.Proofs.SlLaysF0.n6 Tryz.prog Tryz.sortRange_ren := {
 mixed := by kernel_rfl
 f6 := ⟨Tryz.f54.name, by decide, Tryz.func54.trans (congrArg some (by kernel_rfl))⟩
 f14 := ⟨Tryz.f79.name, by decide, Tryz.func79.trans (congrArg some (by kernel_rfl))⟩
 f15 := Tryz.func80.trans (congrArg some (by kernel_rfl))
 f20 := ⟨Tryz.f91.name, by decide, Tryz.func91.trans (congrArg some (by kernel_rfl))⟩
 f21 := ⟨Tryz.f92.name, by decide, Tryz.func92.trans (congrArg some (by kernel_rfl))⟩
 f22 := ⟨Tryz.f93.name, by decide, Tryz.func93.trans (congrArg some (by kernel_rfl))⟩
 f23 := ⟨Tryz.f94.name, by decide, Tryz.func94.trans (congrArg some (by kernel_rfl))⟩
 f24 := ⟨Tryz.f95.name, by decide, Tryz.func95.trans (congrArg some (by kernel_rfl))⟩
 f25 := ⟨Tryz.f96.name, by decide, Tryz.func96.trans (congrArg some (by kernel_rfl))⟩
 f26 := ⟨Tryz.f97.name, by decide, Tryz.func97.trans (congrArg some (by kernel_rfl))⟩
 f27 := ⟨Tryz.f98.name, by decide, Tryz.func98.trans (congrArg some (by kernel_rfl))⟩
 f28 := Tryz.func99.trans (congrArg some (by kernel_rfl))
 f29 := Tryz.func100.trans (congrArg some (by kernel_rfl))
 f46 := ⟨Tryz.f118.name, by decide, Tryz.func118.trans (congrArg some (by kernel_rfl))⟩
 f47 := Tryz.func119.trans (congrArg some (by kernel_rfl))
 f48 := Tryz.func120.trans (congrArg some (by kernel_rfl))
 f49 := ⟨Tryz.f121.name, by decide, Tryz.func121.trans (congrArg some (by kernel_rfl))⟩
 f50 := ⟨Tryz.f122.name, by decide, Tryz.func122.trans (congrArg some (by kernel_rfl))⟩
 f57 := ⟨Tryz.f130.name, by decide, Tryz.func130.trans (congrArg some (by kernel_rfl))⟩
 t0 := Tryz.underlying0
 a0 := Tryz.isAgg0
 z0 := Tryz.sizeOf0
 v0 := Tryz.zeroValue0
 t3 := Tryz.underlying3
 a3 := Tryz.isAgg3
 z3 := Tryz.sizeOf3
 v3 := Tryz.zeroValue3
 t4 := Tryz.underlying4
 a4 := Tryz.isAgg4
 z4 := Tryz.sizeOf4
 v4 := Tryz.zeroValue4
 t5 := Tryz.underlying5
 a5 := Tryz.isAgg5
 z5 := Tryz.sizeOf5
 v5 := Tryz.zeroValue5
 t9 := Tryz.underlying9
 a9 := Tryz.isAgg9
 z9 := Tryz.sizeOf9
 v9 := Tryz.zeroValue9
 t22 := Tryz.underlying50
 a22 := Tryz.isAgg50
 z22 := Tryz.sizeOf50
 v22 := Tryz.zeroValue50
 t25 := Tryz.underlying92
 a25 := Tryz.isAgg92
 z25 := Tryz.sizeOf92
 v25 := Tryz.zeroValue92
 t39 := Tryz.underlying117
 a39 := Tryz.isAgg117
 z39 := Tryz.sizeOf117
 v39 := Tryz.zeroValue117
 t45 := Tryz.underlying124
 a45 := Tryz.isAgg124
 z45 := Tryz.sizeOf124
 v45 := Tryz.zeroValue124
 t46 := Tryz.underlying125
 a46 := Tryz.isAgg125
 z46 := Tryz.sizeOf125
 v46 := Tryz.zeroValue125
 t50 := Tryz.underlying129
 a50 := Tryz.isAgg129
 z50 := Tryz.sizeOf129
 v50 := Tryz.zeroValue129
 t53 := Tryz.underlying132
 a53 := Tryz.isAgg132
 z53 := Tryz.sizeOf132
 v53 := Tryz.zeroValue132
 t55 := Tryz.underlying97
 a55 := Tryz.isAgg97
 z55 := Tryz.sizeOf97
 v55 := Tryz.zeroValue97
 t66 := Tryz.underlying145
 a66 := Tryz.isAgg145
 z66 := Tryz.sizeOf145
 v66 := Tryz.zeroValue145
 t70 := Tryz.underlying149
 a70 := Tryz.isAgg149
 z70 := Tryz.sizeOf149
 v70 := Tryz.zeroValue149
 t76 := Tryz.underlying155
 a76 := Tryz.isAgg155
 z76 := Tryz.sizeOf155
 v76 := Tryz.zeroValue155
 t77 := Tryz.underlying156
 a77 := Tryz.isAgg156
 z77 := Tryz.sizeOf156
 v77 := Tryz.zeroValue156 }
end Go.Proofs
end
section
set_option maxHeartbeats 2000000
set_option maxRecDepth 100000
namespace Go.Proofs.YtiinmagnpkfbbaaGreat
set_option linter.unusedVariables false
set_option linter.unusedSimpArgs false
open Go.RowKit Go.Proofs.YtiinmagnpkfbbaaGreatW.PrintWords Go.Proofs.YtiinmagnpkfbbaaGreatW.PrintLast Go.Proofs.YtiinmagnpkfbbaaGreatW.PrintMore Go.Proofs.YtiinmagnpkfbbaaGreat.QT Go.Sort
namespace Rg
instance : Inhabited S27 := ⟨z27⟩
def cellsRange (x : S27) : List Value := [.int .i64 x.f0, .int .i64 x.f1]
theorem aggRange : ∀ w, (isAgg 27).run Tryz.prog w = .ok true w := fun w => by kernel_rfl
theorem sizeRange : ∀ w, (Go.sizeOf 27).run Tryz.prog w = .ok 2 w := fun w => by kernel_rfl
theorem zeroRange : ∀ w, (zeroValue 27).run Tryz.prog w = .ok (.agg #[.int .i64 0, .int .i64 0]) w := fun w => by kernel_rfl
/-- What is asked of the function value: in whatever world comes of w0 by growth and by writes to block gb alone it answers p. -/
def AnswersR (w0 : World) (gb : Option Nat) (g : Nat) (cb : Array Value) (p : S27 → Bool) : Prop :=
 ∀ W, w0.grownBy W gb → ∀ x : S27, Calls Tryz.prog g (#[.agg #[.int .i64 x.f0, .int .i64 x.f1]] ++ cb) W fun e w' => e = .returned (.bool (p x)) ∧ Below W.heap.size W w'
theorem first_of {α : Type} [Inhabited α] (p : α → Bool) : ∀ (l : List α) (i : Nat), (Lib.idxByFrom (fun _ y => p y) default l i = -1 ∧ ∀ x ∈ l, p x = false) ∨ ∃ k, k < l.length ∧ Lib.idxByFrom (fun _ y => p y) default l i = ((i + k : Nat) : Int) ∧ l.filter (fun x => !p x) = l.take k ++ (l.drop (k + 1)).filter (fun x => !p x)
 | [], _ => .inl ⟨rfl, fun x h => by cases h⟩
 | y :: r, i => by
  cases h : p y with
  | true => exact .inr ⟨0, by simp, by simp [Lib.idxByFrom, h], by simp [h]⟩
  | false =>
   rcases first_of p r (i + 1) with ⟨e, ha⟩ | ⟨k, hk, e, hf⟩
   ·
    exact .inl ⟨by simp [Lib.idxByFrom, h, e], fun x hx => by rcases List.mem_cons.1 hx with rfl | hx; exact h; exact ha x hx⟩
   ·
    refine .inr ⟨k + 1, by simpa using hk, by simp only [Lib.idxByFrom, h]; rw [show (if false = true then (i : Int) else Lib.idxByFrom (fun _ y => p y) default r (i + 1)) = Lib.idxByFrom (fun _ y => p y) default r (i + 1) from rfl, e]; congr 1; omega, by simp [h, hf]⟩
/-- slices.IndexFunc at Metas. -/
theorem index_range (p : S27 → Bool) (g : Nat) (cb : Array Value) (eg : ∀ args w, (callFunc g args).run Tryz.prog w = .ok (.enter g args) w) (base : Nat) (P0 : Nat → Prop) (gb cap n : Nat) (l : List S27) (w : World)
  (hR : Kd.R k27 27 w base P0 (.slice (some ⟨gb, 0, none⟩) n cap) l) (hp : AnswersR w none g cb p) :
  Calls Tryz.prog 78 #[.slice (some ⟨gb, 0, none⟩) n cap, .func (.func g) #[] cb] w fun e w' => e = .returned (.int .i64 (Lib.idxByFrom (fun _ y => p y) default l 0)) ∧ Below w.heap.size w w' := by
 obtain ⟨hn, hnc, hC⟩ := Kd.R_reads' hR
 have hlt : gb < w.heap.size := by
  obtain ⟨_, inner, ho, _⟩ := hR; exact own_lt ho gb rfl
 have h := AnyQ.slices_IndexFunc Tryz.indexRange 2 aggRange sizeRange cellsRange (fun _ => rfl) p g cb eg gb 0 n cap l w
  (fun W x hb => (hp W (grown_of_below hb none) x).mono fun _ _ h => ⟨h.1, below_then hb hb.size h.2⟩) (by omega) (by have := hC.2.1; omega) hlt (fun j hj i v hv => by
   obtain ⟨c, hcl, hM, hcc, _⟩ := Kd.R_elem hR z27 (j : Int) (by omega) (by omega); obtain rfl := k27_openM hM; have : w.cell? ⟨gb, (j : Int).toNat * 2 + i, none⟩ = some v := hcc i v (by rw [← hv]; simp only [cellsRange]; rw [show l[j]! = l.getD (j : Int).toNat z27 from by simp [List.getD_eq_getElem?_getD, List.getElem!_eq_getElem?_getD]; rfl])
   simpa using this)
 rw [List.take_of_length_le (by omega)] at h; exact h
theorem delete_range (p : S27 → Bool) (g : Nat) (cb : Array Value) (eg : ∀ args w, (callFunc g args).run Tryz.prog w = .ok (.enter g args) w) (base : Nat) (P0 : Nat → Prop) (gb cap n : Nat) (l : List S27) (w : World)
  (hR : Kd.R k27 27 w base P0 (.slice (some ⟨gb, 0, none⟩) n cap) l) (hp : AnswersR w (some gb) g cb p) :
  Calls Tryz.prog 52 #[.slice (some ⟨gb, 0, none⟩) n cap, .func (.func g) #[] cb] w fun e w' => e = .returned (.slice (some ⟨gb, 0, none⟩) (l.filter fun x => !p x).length cap) ∧ Kd.R k27 27 w' base P0 (.slice (some ⟨gb, 0, none⟩) (l.filter fun x => !p x).length cap) (l.filter fun x => !p x) ∧ w.grownBy w' (some gb) := by
 have hI := index_range p g cb eg base P0 gb cap n l w hR (fun W hg x => hp W ⟨hg.os, hg.tape, hg.output, hg.size, fun k hk _ => hg.block k hk (by simp)⟩ x); obtain ⟨hn, hnc, hC⟩ := Kd.R_reads' hR; have hmax := hC.2.1; clear hC; have HR := Lib.hid hR; have HP := Lib.hid hp; have Hn := Lib.hid hn; clear hR hp hn; rcases first_of p l 0 with ⟨e1, hall⟩ | ⟨k0, hk0, e1, hf⟩
 ·
  rw [e1] at hI; have hall' : l.filter (fun x => !p x) = l := List.filter_eq_self.2 fun x hx => by rw [hall x hx]; rfl
  have HI := Lib.hid hI; clear hI e1 hall; go_enter Tryz.func52, Tryz.ntmps52
  go_wp2_with fail
  with_reducible refine HI.out.mono ?_
  rintro e w1 ⟨rfl, hb1⟩; have Hb1 := Lib.hid hb1; clear hb1; go_wp2; go_ret; rw [hall', ← Hn.out]; exact ⟨rfl, Kd.R_below HR.out Hb1.out, grown_of_below Hb1.out _⟩
 ·
  rw [e1, Nat.zero_add] at hI; have HI := Lib.hid hI; have Hf := Lib.hid hf; clear hI e1 hf; have hne1 : ((k0 : Int) == -1) = false := beq_eq_false_iff_ne.2 (by omega); have hkn : k0 < n := by have := Hn.out; omega
  go_enter Tryz.func52, Tryz.ntmps52
  go_wp2_with fail
  with_reducible refine HI.out.mono ?_
  rintro e w1 ⟨rfl, hb1⟩; have Hb1 := Lib.hid hb1; clear hb1; go_wp2; go_loopg [5, 6, 7] n (fun gg s5 s6 _ wr => ∃ (i j : Nat) (dk : List S27), s5 = .int .i64 i ∧ s6 = .int .i64 j ∧ i < j ∧ j ≤ n ∧ n - j ≤ gg ∧ Hid (i = ((l.take j).filter (fun x => !p x)).length) ∧ Hid (dk.length = n) ∧ Hid (dk.take i = (l.take j).filter (fun x => !p x)) ∧ Hid (dk.drop j = l.drop j) ∧ Hid (Kd.R k27 27 wr base P0 (.slice (some ⟨gb, 0, none⟩) n cap) dk) ∧ Hid (w.grownBy wr (some gb)))
  case atStart =>
   have hk : (l.take (k0 + 1)).filter (fun x => !p x) = l.take k0 := by
    have h2 := Hf.out; have h3 : l.filter (fun x => !p x) = (l.take (k0 + 1)).filter (fun x => !p x) ++ (l.drop (k0 + 1)).filter (fun x => !p x) := by rw [← List.filter_append, List.take_append_drop]
    rw [h3] at h2; exact List.append_cancel_right h2
   exact ⟨k0, k0 + 1, l, rfl, by go_num, by omega, by omega, by omega, Lib.hid (by rw [hk, List.length_take]; have := Hn.out; omega), Lib.hid Hn.out.symm, Lib.hid hk.symm, Lib.hid rfl, Lib.hid (Kd.R_below HR.out Hb1.out), Lib.hid (grown_of_below Hb1.out _)⟩
  case round =>
   obtain ⟨i, j, dk, rfl, rfl, hij, hjn, hgg, Hi, Hl, Ht, Hd, HD, HG⟩ := hrel
   by_cases hlt : j < n
   ·
    have hlti : (j : Int) < (n : Int) := by omega
    have hjd : j < dk.length := by have := Hl.out; omega
    have hjl : j < l.length := by have := Hn.out; omega
    obtain ⟨x, hx⟩ : ∃ x, dk.getD j z27 = x := ⟨_, rfl⟩
    have hxl : l[j]? = some x := by
     have h1 : dk[j]? = some x := by rw [← hx, List.getD_eq_getElem?_getD, List.getElem?_eq_getElem hjd]; rfl
     have h2 := congrArg (·[0]?) Hd.out; simpa [List.getElem?_drop, h1] using h2.symm
    have hstep : (l.take (j + 1)).filter (fun x => !p x) = (l.take j).filter (fun x => !p x) ++ (if p x = true then [] else [x]) := by
     rw [List.take_add_one, hxl, Option.toList_some, List.filter_append]
     congr 1
     cases h : p x <;> simp [h]
    have Hstep := Lib.hid hstep; obtain ⟨c, hcl, hM, hcc, hfr⟩ := Kd.R_elem HD.out z27 (j : Int) (by omega) (by omega); rw [Int.toNat_natCast, hx] at hM; obtain rfl := k27_openM hM; have c0 : wr.cell? ⟨gb, j * 2, none⟩ = some (.int .i64 x.f0) := hcc 0 _ rfl; have c1 : wr.cell? ⟨gb, j * 2 + 1, none⟩ = some (.int .i64 x.f1) := hcc 1 _ rfl
    have hgbl : gb < wr.heap.size := by
     obtain ⟨_, inner, ho, _⟩ := HD.out; exact own_lt ho gb rfl
    clear hx hxl hcl hM hcc hfr hstep
    have hag : w.grownBy (wr.alloc (.cells #[.int .i64 x.f0, .int .i64 x.f1] 27)) (some gb) :=
     ⟨HG.out.os, HG.out.tape, HG.out.output, by have := HG.out.size; simp; omega, fun k hk hne => (Below.heap_alloc wr _ k (Nat.lt_of_lt_of_le hk HG.out.size)).trans (HG.out.block k hk hne)⟩
    have HC := Lib.hid (HP.out _ hag x); have Hag := Lib.hid hag; have HDa := Lib.hid (Kd.R_alloc HD.out (.cells #[.int .i64 x.f0, .int .i64 x.f1] 27)); have Hbx := Lib.hid (blk_new wr (.cells #[.int .i64 x.f0, .int .i64 x.f1] 27)); clear hag
    cases hpx : p x with
    | true =>
     have HC2 : Hid _ := Lib.hid HC.out; rw [hpx] at HC2; have Hpx := Lib.hid hpx; clear hpx HC; go_wp2_with fail
     with_reducible refine HC2.out.mono ?_
     rintro e w2 ⟨rfl, hb2⟩; have Hb2 := Lib.hid hb2; clear hb2 c0 c1; go_wp2; go_roundg (n - (j + 1))
     case measure => omega
     case rel =>
      exact ⟨i, j + 1, dk, rfl, by go_num, by omega, by omega, Nat.le_refl _, Lib.hid (by rw [Hstep.out, Hpx.out, if_pos rfl, List.append_nil]; exact Hi.out), Hl, Lib.hid (by rw [Hstep.out, Hpx.out, if_pos rfl, List.append_nil]; exact Ht.out), Lib.hid (by rw [← List.drop_drop, Hd.out, List.drop_drop]), Lib.hid (Kd.R_below HDa.out Hb2.out), Lib.hid ⟨Hb2.out.os.trans Hag.out.os, Hb2.out.tape.trans Hag.out.tape, Hb2.out.output.trans Hag.out.output, Nat.le_trans Hag.out.size Hb2.out.size, fun k hk hne => (Hb2.out.block k (Nat.lt_of_lt_of_le hk Hag.out.size)).trans (Hag.out.block k hk hne)⟩⟩
    | false =>
     have HC2 : Hid _ := Lib.hid HC.out; rw [hpx] at HC2; have Hpx := Lib.hid hpx; clear hpx HC; go_wp2_with fail
     with_reducible refine HC2.out.mono ?_
     rintro e w2 ⟨rfl, hb2⟩; have Hb2 := Lib.hid hb2; have HD2 := Lib.hid (Kd.R_below HDa.out hb2); have HG2 : Hid (w.grownBy w2 (some gb)) := Lib.hid ⟨hb2.os.trans Hag.out.os, hb2.tape.trans Hag.out.tape, hb2.output.trans Hag.out.output, Nat.le_trans Hag.out.size hb2.size, fun k hk hne => (hb2.block k (Nat.lt_of_lt_of_le hk Hag.out.size)).trans (Hag.out.block k hk hne)⟩; have hbx := blk_below Hbx.out hb2; have b0 : w2.cell? ⟨wr.heap.size, 0, none⟩ = some (.int .i64 x.f0) := (blk_cell hbx 0).trans rfl; have b1 : w2.cell? ⟨wr.heap.size, 1, none⟩ = some (.int .i64 x.f1) := (blk_cell hbx 1).trans rfl; obtain ⟨c, hcl, hM, hcc, hfr⟩ := Kd.R_elem HD2.out z27 (i : Int) (by omega) (by omega); rw [Int.toNat_natCast] at hM hcc hfr; have Hseg := Lib.hid (Kd.R_seg HD2.out (i : Int) (by omega) (by omega) (seg := [.int .i64 x.f0, .int .i64 x.f1]) (j := 0) hcl (by rw [Int.toNat_natCast]; exact hcc) (by rw [show k27.sz = 2 from rfl]; exact Nat.le_refl 2) (x' := x) (okp := fun k_ => (P0 k_ ∧ k_ ≠ gb)) (by have e1 : c.drop 2 = [] := List.drop_eq_nil_of_le (by rw [hcl]; exact Nat.le_refl 2); simp only [List.take_zero, List.nil_append]; rw [show 0 + [Value.int .i64 x.f0, .int .i64 x.f1].length = 2 from rfl, e1, List.append_nil]; exact k27_mkM _ _ _ x) (fun _ hk => hk)); obtain rfl := k27_openM hM; have d0 : w2.cell? ⟨gb, i * 2, none⟩ = some (.int .i64 (dk.getD i z27).f0) := hcc 0 _ rfl; have d1 : w2.cell? ⟨gb, i * 2 + 1, none⟩ = some (.int .i64 (dk.getD i z27).f1) := hcc 1 _ rfl; have f0 : w2.frozen? ⟨gb, i * 2, none⟩ = false := hfr 0; have f1 : w2.frozen? ⟨gb, i * 2 + 1, none⟩ = false := hfr 1; clear hb2 c0 c1 hbx hcl hM hcc hfr; go_wp2; go_roundg (n - (j + 1))
     case measure => omega
     case rel =>
      refine ⟨i + 1, j + 1, dk.set i x, by go_num, by go_num, by omega, by omega, Nat.le_refl _, Lib.hid ?_, Lib.hid (by rw [List.length_set]; exact Hl.out), Lib.hid ?_, Lib.hid ?_, ?_, ?_⟩
      ·
       rw [Hstep.out, Hpx.out, if_neg (by simp), List.length_append, ← Hi.out]; rfl
      ·
       have hid : i < dk.length := by have := Hl.out; omega
       rw [Hstep.out, Hpx.out, if_neg (by simp), ← Ht.out, List.take_add_one, List.getElem?_set_self hid, Option.toList_some, List.take_set_of_le (Nat.le_refl i)]
      ·
       rw [List.drop_set_of_lt (by omega), ← List.drop_drop, Hd.out, List.drop_drop]
      ·
       have h := Hseg.out.1; rw [Int.toNat_natCast] at h; exact Lib.hid h
      ·
       have h := Hseg.out.2; rw [Int.toNat_natCast] at h
       have h3 : w.grownBy (w2.setCells gb (i * k27.sz + 0) [.int .i64 x.f0, .int .i64 x.f1]) (some gb) := ⟨h.os.trans HG2.out.os, h.tape.trans HG2.out.tape, h.output.trans HG2.out.output, Nat.le_trans HG2.out.size h.size, fun k hk hne => (h.block k (Nat.lt_of_lt_of_le hk HG2.out.size) hne).trans (HG2.out.block k hk hne)⟩
       exact Lib.hid h3
   ·
    obtain rfl : j = n := by omega
    have hlti : ¬ (j : Int) < (j : Int) := by omega
    have hid : i ≤ dk.length := by have := Hl.out; omega
    have hfin : (l.take j).filter (fun x => !p x) = l.filter (fun x => !p x) := by rw [List.take_of_length_le (by have := Hn.out; omega)]
    have Hfin := Lib.hid hfin
    obtain ⟨vs, hvs⟩ : ∃ vs, (Builtin.zeroCells #[Value.int .i64 0, .int .i64 0] (j - i)).toList = vs := ⟨_, rfl⟩
    have hcl : ∀ ty, (Builtin.clear_ #[50] ty #[.slice (some ⟨gb, i * 2, none⟩) (j - i) (cap - i)]).run Tryz.prog wr = .ok (.tuple #[]) (wr.setCells gb (i * 2) vs) := fun ty => by
     rw [← hvs]; refine run_clear_row wr 50 27 ty _ _ Tryz.underlying50 zeroRange rfl (by decide +kernel) gb (i * 2) (j - i) (cap - i) (by omega) (fun t ht => ?_) (fun t ht => ?_)
     ·
      have ht4 : t < (j - i) * 2 := ht; obtain ⟨c, hc1, hM, hcc, hfr⟩ := Kd.R_elem HD.out z27 ((i + t / 2 : Nat) : Int) (by omega) (by omega); rw [Int.toNat_natCast] at hcc; have h4 : t % 2 < c.length := by rw [hc1]; exact Nat.mod_lt _ (by decide)
      have := hcc (t % 2) c[t % 2] (List.getElem?_eq_getElem h4); rw [show (i + t / 2) * k27.sz + t % 2 = i * 2 + t from by show (i + t / 2) * 2 + t % 2 = _; omega] at this; rw [this]; rfl
     ·
      have ht4 : t < (j - i) * 2 := ht; obtain ⟨c, hc1, hM, hcc, hfr⟩ := Kd.R_elem HD.out z27 ((i + t / 2 : Nat) : Int) (by omega) (by omega); have := hfr (t % 2); rw [Int.toNat_natCast, show (i + t / 2) * k27.sz + t % 2 = i * 2 + t from by show (i + t / 2) * 2 + t % 2 = _; omega] at this; exact this
    have Hp := Lib.hid (Past.R_past vs (i * 2) wr (Kd.R_take HD.out hid) (by rw [List.length_take, Nat.min_eq_left hid]; exact Nat.le_refl _)); clear hvs hid; go_wp2; go_ret; have h := Hp.out; rw [Ht.out, Hfin.out] at h; have hi := Hi.out; rw [Hfin.out] at hi; rw [← hi]; exact ⟨rfl, h.1, ⟨h.2.os.trans HG.out.os, h.2.tape.trans HG.out.tape, h.2.output.trans HG.out.output, Nat.le_trans HG.out.size h.2.size, fun k hk hne => (h.2.block k (Nat.lt_of_lt_of_le hk HG.out.size) hne).trans (HG.out.block k hk hne)⟩⟩
theorem infoRange : (Tryz.prog.info? 27).map (fun i => (i.zero, i.size, i.bytes)) = some (some (.agg #[.int .i64 0, .int .i64 0]), 2, 16) := by kernel_rfl
theorem clone_empty (ad : Addr) (c : Nat) (w : World) :
  Calls Tryz.prog 43 #[.slice (some ad) 0 c] w fun e w' => ∃ v', e = .returned v' ∧ w'.ownsRow w.heap.size 27 2 v' 0 [] ∧ Below w.heap.size w w' := by
 obtain ⟨i0, hi, hz0, hz1, hz2⟩ := info_parts infoRange; have q22 : ∀ (w : World) (a : Option Addr) (n c n' c' : Nat), (binOp .eql 50 (.slice a n c) (.slice none n' c')).run Tryz.prog w = .ok (.bool a.isNone) w := fun w a n c n' c' => Lib.run_eql_slice_nil w _ _ a n c n' c' Tryz.underlying50; go_enter Tryz.func43, Tryz.ntmps43
 go_wp2_with (at_builtin; refine wpList_append_own _ rfl _ _ 50 rfl w.heap.size 27 i0 _ 2 16 Tryz.underlying50 hi hz0 hz1 hz2 rfl (by decide) _ _ _ rfl (World.ownsRow_made w #[] 0 (Nat.le_refl _) (Nat.zero_le _) (by simp)) ad 0 c [] rfl rfl (by simp) (by simp) (by simp) (by simp) (by simp) ?_)
 intro v' w1 hown hgrow hnil; go_wp2; go_ret; exact ⟨v', rfl, by simpa using hown, ((Below.refl _ w).alloc (Nat.le_refl _) _).grown hgrow (by simp) (by intro k hk; simp [Value.ownBlock] at hk; omega)⟩
def clone_Range.f (l : List S27) : Option (List S27) := if l.length * 16 ≤ 140737488355328 then some l else none
theorem clone_Range.calls (A0 : Option Addr) (c0 : Nat) (l0 : List (S27)) (r : List (S27)) (w : World) (hr0 : Kd.C k27 w A0 l0.length l0) (hc0 : l0.length ≤ c0) (h : clone_Range.f l0 = some r) :
  Calls Tryz.prog 43 #[.slice A0 l0.length c0] w fun e w' => ∃ v0_ : Value, e = .returned v0_ ∧ Kd.R k27 27 w' w.heap.size (fun _ => True) v0_ r ∧ Below w.heap.size w w' := by
 unfold clone_Range.f at h
 split at h
 ·
  rename_i hb
  cases h; have hlen : l0.length ≤ 9223372036854775807 := hr0.2.1
  cases A0 with
  | none =>
   have h0 : l0.length = 0 := by
    rcases Nat.eq_zero_or_pos l0.length with h | h
    ·
     exact h
    ·
     obtain ⟨ad, e, _⟩ := hr0.2.2 h; cases e
   have hl : l0 = [] := List.eq_nil_of_length_eq_zero h0; subst hl
   exact (AnyE.slices_Clone_nil Tryz.cloneRange 0 c0 w).mono fun e w' ⟨he, hw⟩ => ⟨_, he, by rw [hw]; exact Kd.R_nil _ _ _ _ _, by rw [hw]; exact Below.refl _ _⟩
  | some ad =>
   obtain ⟨b, off, spot⟩ := ad
   cases spot with
   | none =>
    obtain ⟨i0, hi, hz0, hz1, hz2⟩ := info_parts infoRange
    have hcell : ∀ j x, l0[j]? = some x → ∀ i u, (cellsRange x)[i]? = some u → w.cell? ⟨b, off + (j * 2 + i), none⟩ = some u := by
     intro j x hj i u hu; have hjl : j < l0.length := (List.getElem?_eq_some_iff.1 hj).1; obtain ⟨ad, e, hc⟩ := hr0.2.2 (by omega); cases e; obtain ⟨c, hcl, hK, hcc⟩ := hc j x hj; obtain rfl := k27_open hK; have := hcc i u hu; rw [show k27.sz = 2 from rfl] at this; unfold Addr.add at this
     split at this
     ·
      rename_i hz; rw [hz]; exact this
     ·
      exact this
    have hflat : ∀ j u, (l0.flatMap cellsRange)[j]? = some u → ∃ x, l0[j / 2]? = some x ∧ (cellsRange x)[j % 2]? = some u := by
     intro j u hju; clear hr0 hc0 hb hlen hcell
     induction l0 generalizing j with
     | nil => simp at hju
     | cons y ys ih =>
      rw [List.flatMap_cons] at hju
      by_cases hj : j < 2
      ·
       rw [List.getElem?_append_left (by simpa [cellsRange] using hj)] at hju; exact ⟨y, by rw [Nat.div_eq_of_lt hj]; rfl, by rw [Nat.mod_eq_of_lt hj]; exact hju⟩
      ·
       rw [List.getElem?_append_right (by simp [cellsRange]; omega)] at hju; obtain ⟨x, h1, h2⟩ := ih (j - 2) (by simpa [cellsRange] using hju); exact ⟨x, by rw [show j / 2 = (j - 2) / 2 + 1 from by omega, List.getElem?_cons_succ]; exact h1, by rw [show j % 2 = (j - 2) % 2 from by omega]; exact h2⟩
    have hfl : (l0.flatMap cellsRange).length = l0.length * 2 := by
     clear hr0 hc0 hb hlen hcell hflat
     induction l0 with
     | nil => rfl
     | cons y ys ih => rw [List.flatMap_cons, List.length_append, ih]; simp [cellsRange]; omega
    have hcl := AnyE.slices_Clone Tryz.cloneRange i0 _ 2 16 hi hz0 hz1 hz2 rfl (by decide) sizeRange b off l0.length c0 (l0.flatMap cellsRange) w hfl (by unfold maxLen; omega) (by omega)
     (fun j u hj => by
      obtain ⟨x, h1, h2⟩ := hflat j u hj; have := hcell _ x h1 _ u h2
      rwa [show j / 2 * 2 + j % 2 = j from by omega] at this)
     (fun u hu => by
      obtain ⟨j, hj⟩ := List.getElem?_of_mem hu; obtain ⟨x, _, h2⟩ := hflat j u hj; have := List.mem_of_getElem? h2; simp only [cellsRange, List.mem_cons, List.not_mem_nil, or_false] at this
      rcases this with rfl | rfl <;> rfl)
    refine hcl.mono fun e w' ⟨v', he, ho, _, hB⟩ => ⟨v', he, ⟨fun _ _ => trivial, _, ho, hfl, fun j x hj => ?_⟩, hB⟩
    have hjl : j < l0.length := (List.getElem?_eq_some_iff.1 hj).1
    have e4 : ((l0.flatMap cellsRange).drop (j * 2)).take 2 = cellsRange x := by
     apply List.ext_getElem?; intro i
     by_cases hi4 : i < 2
     ·
      rw [List.getElem?_take_of_lt hi4, List.getElem?_drop]
      obtain ⟨u, hu⟩ : ∃ u, (l0.flatMap cellsRange)[j * 2 + i]? = some u := ⟨_, List.getElem?_eq_getElem (by rw [hfl]; omega)⟩
      obtain ⟨x', h1, h2⟩ := hflat _ u hu; rw [show (j * 2 + i) / 2 = j from by omega, hj] at h1; cases h1; rw [hu, ← h2, show (j * 2 + i) % 2 = i from by omega]
     ·
      rw [List.getElem?_eq_none (by rw [List.length_take]; omega), List.getElem?_eq_none (by simp [cellsRange]; omega)]
    show k27.M _ _ _ x (((l0.flatMap cellsRange).drop (j * 2)).take 2); rw [e4]
    exact k27_mkM _ _ _ x
   | some s =>
    have h0 : l0.length = 0 := by
     rcases Nat.eq_zero_or_pos l0.length with h | h
     ·
      exact h
     ·
      obtain ⟨ad, e, hc⟩ := hr0.2.2 h; cases e; obtain ⟨c, hcl, hK, hcc⟩ := hc 0 _ (List.getElem?_eq_getElem h); have h1 := hcc 0 (c[0]'(by rw [hcl]; decide)) (List.getElem?_eq_getElem (by rw [hcl]; decide)); have := World.cell?_spot h1; simp [Addr.add] at this
    have hl : l0 = [] := List.eq_nil_of_length_eq_zero h0; subst hl
    refine (clone_empty _ c0 w).mono fun e w' ⟨v', he, ho, hB⟩ => ⟨v', he, ⟨fun _ _ => trivial, _, ho, rfl, fun j x hj => by simp at hj⟩, hB⟩
 ·
  cases h
theorem flat_len : ∀ l : List S27, (l.flatMap cellsRange).length = l.length * 2
 | [] => rfl
 | y :: ys => by rw [List.flatMap_cons, List.length_append, flat_len ys]; simp [cellsRange]; omega
theorem flat_at : ∀ (l : List S27) (j : Nat), j < l.length * 2 → (l.flatMap cellsRange)[j]? = some ((cellsRange l[j / 2]!)[j % 2]!)
 | [], j, h => by simp at h
 | y :: ys, j, h => by
  rw [List.flatMap_cons]
  by_cases hj : j < 2
  ·
   rw [List.getElem?_append_left (by simpa [cellsRange] using hj), Nat.div_eq_of_lt hj, Nat.mod_eq_of_lt hj]
   match j, hj with
   | 0, _ => rfl
   | 1, _ => rfl
  ·
   rw [List.getElem?_append_right (by simp [cellsRange]; omega), show j - (cellsRange y).length = j - 2 from rfl, flat_at ys (j - 2) (by simp at h; omega)]; rw [show j / 2 = (j - 2) / 2 + 1 from by omega, show j % 2 = (j - 2) % 2 from by omega, List.getElem!_cons_succ]
theorem flat_reps (l : List S27) (W : World) (base : Nat) (ok : Nat → Prop) : Reps (k27.M W base ok) 2 l (l.flatMap cellsRange) := by
 refine ⟨flat_len l, fun j x hj => ?_⟩; have hjl : j < l.length := (List.getElem?_eq_some_iff.1 hj).1
 have e4 : ((l.flatMap cellsRange).drop (j * 2)).take 2 = cellsRange x := by
  apply List.ext_getElem?; intro i
  by_cases hi4 : i < 2
  ·
   rw [List.getElem?_take_of_lt hi4, List.getElem?_drop, flat_at l _ (by omega), show (j * 2 + i) / 2 = j from by omega, show (j * 2 + i) % 2 = i from by omega, show l[j]! = x from by simp [List.getElem!_eq_getElem?_getD, hj]]
   match i, hi4 with
   | 0, _ => rfl
   | 1, _ => rfl
  ·
   rw [List.getElem?_eq_none (by rw [List.length_take]; omega), List.getElem?_eq_none (by simp [cellsRange]; omega)]
 rw [e4]; exact k27_mkM _ _ _ x
/-- A row whose cells were put anew. -/
theorem row_put (w : World) (base gb n cap m : Nat) (P0 : Nat → Prop) (l l' : List S27) (os : Array Obj) (hl : l'.length = l.length) (hR : Kd.R k27 27 w base P0 (.slice (some ⟨gb, 0, none⟩) n cap) l) :
  Kd.R k27 27 (sortWorldK cellsRange 2 w gb 0 m l'.toArray os) base P0 (.slice (some ⟨gb, 0, none⟩) n cap) l' ∧ w.grownBy (sortWorldK cellsRange 2 w gb 0 m l'.toArray os) (some gb) := by
 obtain ⟨hok, inner, ho, hr⟩ := hR; obtain ⟨hil, ⟨hv, _⟩ | ⟨g, cap', cur, hv, hb, hh, hn, hcm, hcs, htk⟩⟩ := ho
 ·
  cases hv
 ·
  cases hv; have hlt : gb < w.heap.size := (Array.getElem?_eq_some_iff.1 hh).1
  have hget : (sortWorldK cellsRange 2 w gb 0 m l'.toArray os).heap[gb]? = some (.cells (putCells id 0 (flatK cellsRange 2 l'.toArray) cur) 27 (0, 0)) := by
   unfold sortWorldK putRowK putRow mapBlock grow Go.Sort.ahead; simp only; rw [Array.getElem?_append_left (by simpa using hlt), Array.getElem?_modify, if_pos rfl, hh]; rfl
  refine ⟨⟨hok, l'.flatMap cellsRange, ⟨flat_len l', .inr ⟨gb, cap, _, by rw [hl], hb, hget, by rw [hl]; exact hn, hcm, by simp [putCells, hcs], ?_⟩⟩, flat_reps _ _ _ _⟩, ⟨rfl, rfl, rfl, ?_, fun k hk hne => ?_⟩⟩
  ·
   apply List.ext_getElem?; intro j; have hcz : cur.size = cap * 2 := hcs; have hcl : (k27.sz) = 2 := rfl
   by_cases hj : j < l'.length * 2
   ·
    rw [hcl, List.getElem?_take_of_lt hj, flat_at l' j hj, Array.getElem?_toList]; unfold putCells; rw [Array.getElem?_mapIdx]; have hjc : j < cur.size := by omega
    rw [Array.getElem?_eq_getElem hjc, Option.map_some, if_pos ⟨Nat.zero_le _, by rw [size_flatK]; simp; omega⟩, Nat.sub_zero, get_flatK _ _ _ _ (by simpa using hj)]; simp
   ·
    rw [List.getElem?_eq_none (by rw [List.length_take, hcl]; omega), List.getElem?_eq_none (by rw [flat_len]; omega)]
  ·
   simp [sortWorldK, putRowK, putRow, mapBlock, grow, Go.Sort.ahead]
  ·
   have hne' : gb ≠ k := fun e => hne (by rw [e]); unfold sortWorldK putRowK putRow mapBlock grow Go.Sort.ahead; simp only; rw [Array.getElem?_append_left (by simpa using hk), Array.getElem?_modify, if_neg hne']
theorem row_holds (w : World) (base gb n cap : Nat) (P0 : Nat → Prop) (l : List S27) (hR : Kd.R k27 27 w base P0 (.slice (some ⟨gb, 0, none⟩) n cap) l) : HoldsK cellsRange 2 w gb 0 l.toArray := by
 intro j hj; rw [size_flatK] at hj; have hj' : j < l.length * 2 := by simpa using hj
 obtain ⟨hn, _, _⟩ := Kd.R_reads' hR; obtain ⟨c, hcl, hM, hcc, hfr⟩ := Kd.R_elem hR z27 ((j / 2 : Nat) : Int) (by omega) (by omega); rw [Int.toNat_natCast] at hM hcc hfr; obtain rfl := k27_openM hM
 have e : (flatK cellsRange 2 l.toArray)[j]! = (cellsRange (l.getD (j / 2) z27))[j % 2]! := by
  rw [get_flatK _ _ _ _ hj]
  congr 2
  simp [List.getD_eq_getElem?_getD, List.getElem!_eq_getElem?_getD]
  rfl
 rw [e, Nat.zero_add]; have e3 : j / 2 * 2 + j % 2 = j := by omega
 have h3 : j % 2 < 2 := Nat.mod_lt _ (by omega)
 constructor
 ·
  have := hcc (j % 2) _ (List.getElem?_eq_getElem (by simpa using h3)); rw [show k27.sz = 2 from rfl, e3] at this; rw [this]; simp only [id, cellsRange]; rw [getElem!_pos _ _ (by simpa using h3)]
 ·
  have := hfr (j % 2); rw [show k27.sz = 2 from rfl, e3] at this; exact this
def Lays (W w' : World) : Prop := ∃ q os, w' = grow (W.drewN q) os
theorem Lays.refl (W : World) : Lays W W := ⟨0, #[], by rw [grow_empty]; rfl⟩
theorem Lays.trans {a b c : World} (h : Lays a b) (k : Lays b c) : Lays a c := by
 obtain ⟨q, os, rfl⟩ := h; obtain ⟨q', os', rfl⟩ := k; exact ⟨q + q', os ++ os', by simp [grow, World.drewN, Nat.add_assoc]⟩
theorem Lays.alloc {a b : World} (h : Lays a b) (o : Obj) : Lays a (b.alloc o) := h.trans ⟨0, #[o], by rw [alloc_eq_grow]; rfl⟩
theorem Lays.below {W w' : World} (h : Lays W w') : Below W.heap.size W w' := by
 obtain ⟨q, os, rfl⟩ := h; refine ⟨rfl, rfl, rfl, by simp [grow, World.drewN], fun k hk => ?_⟩; simp only [grow, World.drewN]; rw [Array.getElem?_append_left hk]
theorem nan_int (a : Int) (w : World) : Calls Tryz.prog 81 #[.int .i64 a] w fun e w' => e = .returned (.bool false) ∧ w = w' := by
 go_enter Tryz.func81, Tryz.ntmps81
 go_wp2; go_ret; exact ⟨rfl, rfl⟩
def cmpI (a b : Int) : Int := if a < b then -1 else if a = b then 0 else 1
theorem cmp_int (a b : Int) (w : World) : Calls Tryz.prog 56 #[.int .i64 a, .int .i64 b] w fun e w' => e = .returned (.int .i64 (cmpI a b)) ∧ w = w' := by
 by_cases h1 : a < b
 ·
  have e : cmpI a b = -1 := by unfold cmpI; rw [if_pos h1]
  rw [e]; have h2 : decide (a < b) = true := decide_eq_true h1; go_enter Tryz.func56, Tryz.ntmps56
  go_wp2_with (go_at_call 81; with_reducible refine (nan_int _ _).mono ?_; rintro e w' ⟨rfl, rfl⟩)
  go_ret; exact ⟨rfl, rfl⟩
 ·
  have h2 : decide (a < b) = false := decide_eq_false h1
  by_cases h3 : a = b
  ·
   have e : cmpI a b = 0 := by unfold cmpI; rw [if_neg h1, if_pos h3]
   rw [e]; subst h3; go_enter Tryz.func56, Tryz.ntmps56
   go_wp2_with (go_at_call 81; with_reducible refine (nan_int _ _).mono ?_; rintro e w' ⟨rfl, rfl⟩)
   go_ret; exact ⟨rfl, rfl⟩
  ·
   have e : cmpI a b = 1 := by unfold cmpI; rw [if_neg h1, if_neg h3]
   rw [e]; have h4 : decide (b < a) = true := decide_eq_true (by omega); go_enter Tryz.func56, Tryz.ntmps56
   go_wp2_with (go_at_call 81; with_reducible refine (nan_int _ _).mono ?_; rintro e w' ⟨rfl, rfl⟩)
   go_ret; exact ⟨rfl, rfl⟩
def cmpR (a b : S27) : Int := cmpI a.f0 b.f0
theorem norm2_calls (a b : S27) (W : World) : Calls Tryz.prog 55 #[.agg #[.int .i64 a.f0, .int .i64 a.f1], .agg #[.int .i64 b.f0, .int .i64 b.f1]] W fun e w' => e = .returned (.int .i64 (cmpR a b)) ∧ Lays W w' := by
 have HC := Lib.hid (fun w => cmp_int a.f0 b.f0 w); have HL := Lib.hid (((Lays.refl W).alloc (.cells #[.int .i64 a.f0, .int .i64 a.f1] 27)).alloc (.cells #[.int .i64 b.f0, .int .i64 b.f1] 27)); unfold cmpR; go_enter Tryz.func55, Tryz.ntmps55
 go_wp2_with fail
 with_reducible refine (HC.out _).mono ?_
 rintro e w1 ⟨rfl, rfl⟩; go_wp2; go_ret; exact ⟨rfl, HL.out⟩
def ltR (a b : S27) : Bool := ltOf cmpR a b
theorem ltR_iff (a b : S27) : ltR a b = true ↔ a.f0 < b.f0 := by
 unfold ltR ltOf cmpR cmpI; rw [decide_eq_true_iff]
 split
 ·
  constructor <;> intro <;> omega
 ·
  split
  ·
   constructor <;> intro <;> omega
  ·
   constructor <;> intro <;> omega
theorem ltR_false (a b : S27) : ltR a b = false ↔ ¬ a.f0 < b.f0 := by rw [← ltR_iff, Bool.not_eq_true]
theorem swoR : SWO (ltOf cmpR) := by
 refine ⟨fun x => ?_, fun x y z h h' => ?_, fun x y z h h' => ?_⟩
 ·
  exact (ltR_false x x).2 (by omega)
 ·
  exact (ltR_iff x z).2 (by have h1 := (ltR_iff x y).1 h; have h2 := (ltR_iff y z).1 h'; omega)
 ·
  exact (ltR_false x z).2 (by have h1 := (ltR_false x y).1 h; have h2 := (ltR_false y z).1 h'; omega)
theorem enter55 : ∀ args w, (callFunc 55 args).run Tryz.prog w = .ok (.enter 55 args) w := fun args w => by kernel_rfl
/-- SortFunc by times at a row that is not nil: a row of the same points, by rising times. -/
theorem sortR_row (base gb n cap : Nat) (P0 : Nat → Prop) (l : List S27) (w : World) (hR : Kd.R k27 27 w base P0 (.slice (some ⟨gb, 0, none⟩) n cap) l) (hb : l.length < 4611686018427387904) :
  Calls Tryz.prog 54 #[.slice (some ⟨gb, 0, none⟩) n cap, .func (.func 55) #[] #[]] w fun e w' => e = .returned (.tuple #[]) ∧ ∃ l' : List S27, l'.Perm l ∧ l'.Pairwise (fun a b => ¬ b.f0 < a.f0) ∧ Kd.R k27 27 w' base P0 (.slice (some ⟨gb, 0, none⟩) n cap) l' ∧ w.grownBy w' (some gb) := by
 have hlt := Kd.R_lt hR gb rfl; obtain ⟨hn, _, _⟩ := Kd.R_reads' hR
 have h := AnyQ.slices_SortFunc Tryz.sortRange 2 aggRange sizeRange cellsRange (fun _ => rfl) (fun x v hv => by
  simp only [cellsRange, List.mem_cons, List.not_mem_nil, or_false] at hv
  rcases hv with rfl | rfl <;> rfl) cmpR swoR 55 #[] gb 0 cap l.toArray w enter55 (fun m os dk _ x y => norm2_calls x y _) (row_holds w base gb n cap P0 l hR) hlt (by simpa using hb)
 have e : l.toArray.size = n := by simp [hn]
 rw [e] at h; refine h.mono fun e w' ⟨he, d', m, os, hperm, hsort, hw⟩ => ?_; have hsz : d'.size = n := by have := hperm.1; simpa [hn] using this
 have hp : d'.toList.Perm l := by
  have h1 := hperm.2.2; have e1 : d'.extract 0 n = d' := by rw [← hsz]; simp
  have e2 : l.toArray.extract 0 n = l.toArray := by rw [show n = l.toArray.size from by simp [hn]]; simp
  rw [e1, e2] at h1; simpa using h1
 have hu : d'.toList.Pairwise (fun a b => ¬ b.f0 < a.f0) := by
  refine List.pairwise_iff_getElem.2 ?_; intro i j hi hj hij; have := hsort i j (Nat.zero_le _) hij (by rw [← hsz]; simpa using hj); rw [getElem!_pos d' j (by simpa using hj), getElem!_pos d' i (by simpa using hi)] at this; have h2 : ltR d'.toList[j] d'.toList[i] = false := by show ltOf cmpR _ _ = false; simpa using this
  exact (ltR_false _ _).1 h2
 have hrow := row_put w base gb n cap m P0 l d'.toList os (by rw [hp.length_eq]) hR; rw [show d'.toList.toArray = d' from by simp] at hrow; rw [hw]; exact ⟨he, d'.toList, hp, hu, hrow⟩
end Rg
end Go.Proofs.YtiinmagnpkfbbaaGreat
end
