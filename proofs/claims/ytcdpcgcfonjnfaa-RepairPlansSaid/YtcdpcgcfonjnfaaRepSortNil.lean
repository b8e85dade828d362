/- slices.SortFunc at a nil row of Places; at any row. -/
import Derived.Test.YtcdpcgcfonjnfaaRepSort
import Derived.WalkKit
import Derived.Deep.LoopGhost
namespace Go.Proofs.Ytcdpcgcfonjnfaa
set_option linter.unusedVariables false
open Go.RowKit Go.Proofs.YtcdpcgcfonjnfaaW.PrintWords
namespace Rp
set_option maxHeartbeats 2000000 in
theorem insertion_nil (f : Value) (w : World) : Calls Try.prog 37 #[.slice none 0 0, .int .i64 0, .int .i64 0, f] w fun e w' => e = .returned (.tuple #[]) ∧ Below w.heap.size w w' := by
  have H0 := Lib.hid (Below.refl w.heap.size w)
  go_enter Try.func37, Try.ntmps37
  go_wp2
  go_loopg [8] 1 (fun gg s8 wr => s8 = .int .i64 1 ∧ Hid (Below w.heap.size w wr))
  case atStart => exact ⟨rfl, H0⟩
  case round =>
    obtain ⟨rfl, H⟩ := hrel
    go_wp2
    go_end0
    exact ⟨rfl, H.out⟩
set_option maxHeartbeats 4000000 in
set_option maxRecDepth 100000 in
theorem pdq_nil (f : Value) (lim : Int) (w : World) : Calls Try.prog 31 #[.slice none 0 0, .int .i64 0, .int .i64 0, .int .i64 lim, f] w fun e w' => e = .returned (.tuple #[]) ∧ Below w.heap.size w w' := by
  have H0 := Lib.hid (Below.refl w.heap.size w)
  have HI := Lib.hid (fun w => insertion_nil f w)
  go_enter Try.func31, Try.ntmps31
  go_wp2
  go_loopg [1, 2] 1 (fun gg s1 s2 wr => s1 = .int .i64 0 ∧ s2 = .int .i64 0 ∧ Hid (Below w.heap.size w wr))
  case atStart => exact ⟨rfl, rfl, H0⟩
  case round =>
    obtain ⟨rfl, rfl, H⟩ := hrel
    go_wp2_with fail
    with_reducible refine (HI.out _).mono ?_
    rintro e w1 ⟨rfl, hb1⟩
    have HB := Lib.hid (below_then H.out H.out.size hb1)
    clear hb1
    go_wp2
    refine bodyPost_ret (results_none rfl _ _ _) rfl ?_
    exact ⟨rfl, HB.out⟩
set_option maxHeartbeats 4000000 in
theorem sort_nil (f : Value) (w : World) : Calls Try.prog 24 #[.slice none 0 0, f] w fun e w' => e = .returned (.tuple #[]) ∧ Below w.heap.size w w' := by
  have hl : Calls Try.prog 32 #[.int .u64 0] w fun e w' => e = .returned (.int .i64 (Lib.bitLen 0 : Nat)) ∧ w' = w := by
    have h := Any.bits_Len (SlLaysF0.n15.bits (P := Try.prog) (ρ := Try.sortPlace_ren) { Try.sortPlace with }) (0 : Int) w (by omega) (by omega)
    exact h
  have HL := Lib.hid hl
  have HP := Lib.hid (fun lim w => pdq_nil f lim w)
  clear hl
  go_enter Try.func24, Try.ntmps24
  go_wp2_with fail
  with_reducible refine HL.out.mono ?_
  rintro e w1 ⟨rfl, rfl⟩
  go_wp2_with fail
  with_reducible refine (HP.out _ _).mono ?_
  rintro e w2 ⟨rfl, hb⟩
  have HB := Lib.hid hb
  clear hb
  go_wp2
  go_end0
  exact ⟨rfl, HB.out⟩
open Go.Proofs.YtcdpcgcfonjnfaaW.PrintLast Go.Proofs.YtcdpcgcfonjnfaaW.PrintMore Go.Proofs.Ytcdpcgcfonjnfaa.QT in
/-- SortFunc at a row, nil or not. -/
theorem sort_any (base : Nat) (P0 : Nat → Prop) (v : Value) (l : List S38) (w : World) (hR : Kd.R k38 32 w base P0 v l) (hb : l.length < 4611686018427387904) :
    Calls Try.prog 24 #[v, .func (.func 17) #[] #[]] w fun e w' => e = .returned (.tuple #[]) ∧ ∃ l' : List S38, l'.Perm l ∧ l'.Pairwise (fun a b => ¬ lt b a) ∧ Kd.R k38 32 w' base P0 v l' ∧ w.grownBy w' v.ownBlock := by
  obtain ⟨inner, ho⟩ := Kd.R_own hR
  rcases ho with ⟨_, ⟨rfl, h0⟩ | ⟨gb, cap, cur, rfl, _⟩⟩
  · have hl := List.eq_nil_of_length_eq_zero h0
    subst hl
    exact (sort_nil _ w).mono fun e w' ⟨he, hb⟩ => ⟨he, [], List.Perm.refl _, List.Pairwise.nil, Kd.R_nil _ _ _ _ _, grown_of_below hb _⟩
  · exact (sort_row base gb l.length cap P0 l w hR hb).mono fun e w' ⟨he, l', h1, h2, hR', hg⟩ => ⟨he, l', h1, h2, hR', hg⟩
end Rp
end Go.Proofs.Ytcdpcgcfonjnfaa
