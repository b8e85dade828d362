/- buffer.Take of a block that has no point. -/
import Derived.Shelf.SlGeneric
import Derived.Shelf.SlIter.Nil
import Derived.Shelf.SortM.Plain
import Derived.Shelf.SortM.SortNone
import Derived.Ground.GgzProg
import Derived.Ground.SlgmProg
import Derived.Test.YtmocpglnoehknaaProg
import Derived.RowKit
import Derived.Test.YtmocpglnoehknaaBufDone

/-
  DERIVED: THE SHELF's CONTRACTS AT THIS DUMP, IN PLAIN WORDS (tools/lay-plain.mjs out of 'YtmocpglnoehknaaLayI.lean', which tools/lay-shelf.mjs wrote): THE SAME DECLARATIONS UNDER THE SAME NAMES: 'import', 'namespace', 'open', 'def', 'theorem' AND NOTHING ELSE: no command of the shelf's: FOR A HAND-IN. Each laying: the table of numbers ('.._ren') and one theorem, a field a fact of the dump's own or the kernel's comparison; each contract: ONE APPLICATION.
-/
namespace Go.Proofs
open Go.Shelf
def Try.keysL_ren : Go.Shelf.Ren := ⟨fun | 7 => 31 | 10 => 48 | n => n, fun | 23 => 70 | 26 => 9 | 3 => 29 | 28 => 74 | 0 => 0 | 27 => 73 | 33 => 88 | 4 => 4 | n => n, fun | n => n⟩
theorem Try.keysL : Go.Proofs.SlLaysZ.n7 Try.prog Try.keysL_ren := {
  mixed := by kernel_rfl
  f7 := ⟨Try.f31.name, by decide, Try.func31.trans (congrArg some (by kernel_rfl))⟩
  f10 := ⟨Try.f48.name, by decide, Try.func48.trans (congrArg some (by kernel_rfl))⟩
  t0 := Try.underlying0
  a0 := Try.isAgg0
  z0 := Try.sizeOf0
  v0 := Try.zeroValue0
  t4 := Try.underlying4
  a4 := Try.isAgg4
  z4 := Try.sizeOf4
  v4 := Try.zeroValue4
  t23 := Try.underlying70
  a23 := Try.isAgg70
  z23 := Try.sizeOf70
  v23 := Try.zeroValue70
  t26 := Try.underlying9
  a26 := Try.isAgg9
  z26 := Try.sizeOf9
  v26 := Try.zeroValue9
  t27 := Try.underlying73
  a27 := Try.isAgg73
  z27 := Try.sizeOf73
  v27 := Try.zeroValue73
  t28 := Try.underlying74
  a28 := Try.isAgg74
  z28 := Try.sizeOf74
  v28 := Try.zeroValue74
  t33 := Try.underlying88
  a33 := Try.isAgg88
  z33 := Try.sizeOf88
  v33 := Try.zeroValue88 }
def Try.sortedL_ren : Go.Shelf.Ren := ⟨fun | 6 => 30 | 8 => 46 | 9 => 47 | 11 => 56 | 13 => 50 | 12 => 57 | 23 => 66 | 24 => 67 | 14 => 71 | 15 => 72 | 16 => 73 | 17 => 74 | 18 => 75 | 19 => 76 | 20 => 77 | 21 => 78 | 22 => 79 | 25 => 87 | 26 => 81 | 27 => 82 | 28 => 88 | 29 => 89 | 30 => 90 | 31 => 101 | n => n, fun | 26 => 9 | 28 => 74 | 24 => 71 | 0 => 0 | 3 => 3 | 37 => 91 | 48 => 112 | 50 => 22 | 4 => 4 | 40 => 105 | 39 => 104 | 45 => 109 | 5 => 5 | 9 => 9 | 51 => 121 | 55 => 125 | 57 => 131 | 58 => 132 | 33 => 88 | n => n, fun | n => n⟩
theorem Try.sortedL : Go.Proofs.SlLaysZ.n6 Try.prog Try.sortedL_ren := {
  mixed := by kernel_rfl
  f6 := ⟨Try.f30.name, by decide, Try.func30.trans (congrArg some (by kernel_rfl))⟩
  f8 := ⟨Try.f46.name, by decide, Try.func46.trans (congrArg some (by kernel_rfl))⟩
  f11 := ⟨Try.f56.name, by decide, Try.func56.trans (congrArg some (by kernel_rfl))⟩
  t0 := Try.underlying0
  a0 := Try.isAgg0
  z0 := Try.sizeOf0
  v0 := Try.zeroValue0
  t24 := Try.underlying71
  a24 := Try.isAgg71
  z24 := Try.sizeOf71
  v24 := Try.zeroValue71
  t26 := Try.underlying9
  a26 := Try.isAgg9
  z26 := Try.sizeOf9
  v26 := Try.zeroValue9
  t28 := Try.underlying74
  a28 := Try.isAgg74
  z28 := Try.sizeOf74
  v28 := Try.zeroValue74
  i26 := by kernel_rfl }
def Try.sortL_ren : Go.Shelf.Ren := ⟨fun | 6 => 47 | 8 => 50 | 9 => 57 | 19 => 66 | 20 => 67 | 21 => 71 | 22 => 72 | 23 => 73 | 24 => 74 | 25 => 75 | 26 => 76 | 27 => 77 | 28 => 78 | 29 => 79 | 36 => 87 | 31 => 81 | 32 => 82 | 37 => 88 | 38 => 89 | 39 => 90 | 41 => 101 | n => n, fun | 27 => 71 | 29 => 9 | 3 => 3 | 32 => 91 | 26 => 71 | 0 => 0 | 44 => 112 | 46 => 22 | 4 => 4 | 36 => 105 | 35 => 104 | 41 => 109 | 5 => 5 | 9 => 9 | 53 => 121 | 57 => 125 | 63 => 131 | 64 => 132 | n => n, fun | n => n⟩
theorem Try.sortL : Go.Proofs.SlLaysM.n6 Try.prog Try.sortL_ren := {
  mixed := by kernel_rfl
  f6 := ⟨Try.f47.name, by decide, Try.func47.trans (congrArg some (by kernel_rfl))⟩
  f8 := Try.func50.trans (congrArg some (by kernel_rfl))
  f9 := ⟨Try.f57.name, by decide, Try.func57.trans (congrArg some (by kernel_rfl))⟩
  f19 := Try.func66.trans (congrArg some (by kernel_rfl))
  f20 := Try.func67.trans (congrArg some (by kernel_rfl))
  f21 := ⟨Try.f71.name, by decide, Try.func71.trans (congrArg some (by kernel_rfl))⟩
  f22 := ⟨Try.f72.name, by decide, Try.func72.trans (congrArg some (by kernel_rfl))⟩
  f23 := ⟨Try.f73.name, by decide, Try.func73.trans (congrArg some (by kernel_rfl))⟩
  f24 := ⟨Try.f74.name, by decide, Try.func74.trans (congrArg some (by kernel_rfl))⟩
  f25 := ⟨Try.f75.name, by decide, Try.func75.trans (congrArg some (by kernel_rfl))⟩
  f26 := ⟨Try.f76.name, by decide, Try.func76.trans (congrArg some (by kernel_rfl))⟩
  f27 := ⟨Try.f77.name, by decide, Try.func77.trans (congrArg some (by kernel_rfl))⟩
  f28 := ⟨Try.f78.name, by decide, Try.func78.trans (congrArg some (by kernel_rfl))⟩
  f29 := ⟨Try.f79.name, by decide, Try.func79.trans (congrArg some (by kernel_rfl))⟩
  f31 := Try.func81.trans (congrArg some (by kernel_rfl))
  f32 := Try.func82.trans (congrArg some (by kernel_rfl))
  f36 := ⟨Try.f87.name, by decide, Try.func87.trans (congrArg some (by kernel_rfl))⟩
  f37 := ⟨Try.f88.name, by decide, Try.func88.trans (congrArg some (by kernel_rfl))⟩
  f38 := ⟨Try.f89.name, by decide, Try.func89.trans (congrArg some (by kernel_rfl))⟩
  f39 := ⟨Try.f90.name, by decide, Try.func90.trans (congrArg some (by kernel_rfl))⟩
  f41 := ⟨Try.f101.name, by decide, Try.func101.trans (congrArg some (by kernel_rfl))⟩
  t0 := Try.underlying0
  a0 := Try.isAgg0
  z0 := Try.sizeOf0
  v0 := Try.zeroValue0
  t3 := Try.underlying3
  a3 := Try.isAgg3
  z3 := Try.sizeOf3
  v3 := Try.zeroValue3
  t4 := Try.underlying4
  a4 := Try.isAgg4
  z4 := Try.sizeOf4
  v4 := Try.zeroValue4
  t5 := Try.underlying5
  a5 := Try.isAgg5
  z5 := Try.sizeOf5
  v5 := Try.zeroValue5
  t9 := Try.underlying9
  a9 := Try.isAgg9
  z9 := Try.sizeOf9
  v9 := Try.zeroValue9
  t26 := Try.underlying71
  a26 := Try.isAgg71
  z26 := Try.sizeOf71
  v26 := Try.zeroValue71
  t27 := Try.underlying71
  a27 := Try.isAgg71
  z27 := Try.sizeOf71
  v27 := Try.zeroValue71
  t29 := Try.underlying9
  a29 := Try.isAgg9
  z29 := Try.sizeOf9
  v29 := Try.zeroValue9
  t32 := Try.underlying91
  a32 := Try.isAgg91
  z32 := Try.sizeOf91
  v32 := Try.zeroValue91
  t35 := Try.underlying104
  a35 := Try.isAgg104
  z35 := Try.sizeOf104
  v35 := Try.zeroValue104
  t36 := Try.underlying105
  a36 := Try.isAgg105
  z36 := Try.sizeOf105
  v36 := Try.zeroValue105
  t41 := Try.underlying109
  a41 := Try.isAgg109
  z41 := Try.sizeOf109
  v41 := Try.zeroValue109
  t44 := Try.underlying112
  a44 := Try.isAgg112
  z44 := Try.sizeOf112
  v44 := Try.zeroValue112
  t46 := Try.underlying22
  a46 := Try.isAgg22
  z46 := Try.sizeOf22
  v46 := Try.zeroValue22
  t53 := Try.underlying121
  a53 := Try.isAgg121
  z53 := Try.sizeOf121
  v53 := Try.zeroValue121
  t57 := Try.underlying125
  a57 := Try.isAgg125
  z57 := Try.sizeOf125
  v57 := Try.zeroValue125
  t63 := Try.underlying131
  a63 := Try.isAgg131
  z63 := Try.sizeOf131
  v63 := Try.zeroValue131
  t64 := Try.underlying132
  a64 := Try.isAgg132
  z64 := Try.sizeOf132
  v64 := Try.zeroValue132 }
end Go.Proofs

/- slices.Sorted at what maps.Keys hands back (the laying of the shelf's contracts: LayI). -/
namespace Go.Proofs
open Go.RowKit Go.Maps Go.Sort Go.Shelf


/-- slices.Sort's two contracts at this dump, at the fence that asks nothing. -/
theorem Try.sortsK (m : Nat) : AnyZ.SortsIn Try.prog Try.sortedL_ren Fence.wide m :=
  ⟨fun blk off cap ss W hH hblk hsz => callsIn_wide.2 (AnyM.slices_Sort_string Try.sortL blk off cap ss W hH hblk hsz),
   fun p cap W => callsIn_wide.2 (AnyM.slices_Sort_string_none Try.sortL p cap W)⟩

/-- **maps.Keys[map[string][]thermograph/api.Point,string,[]thermograph/api.Point], at whatever map, the nil one too:** a function value over ONE NEW BLOCK, which holds the map. -/
theorem Try.maps_Keys (mb : Option Nat) (W : World) : CallsIn Fence.wide 5 Try.prog 31 #[.map mb] W fun e w' => e = .returned (.func (.func 48) #[] #[.pointer (some ⟨W.heap.size, 0, none⟩)]) ∧ w' = W.alloc (.cells #[.map mb] 70) :=
  AnyZ.keys_in Try.keysL Fence.wide 5 trivial rfl mb W

set_option maxHeartbeats 1000000 in
/-- **slices.Sorted[string] AT WHAT maps.Keys[map[string][]thermograph/api.Point,string,[]thermograph/api.Point] HANDED BACK FOR A MAP THAT IS NOT nil** ('w': the world AHEAD of maps.Keys' call): A NEW SLICE THAT HOLDS THE MAP's KEYS, SORTED; nil just where it has none; nothing that lay before has turned. -/
theorem Try.slices_Sorted_keys {H : Type} (b nn : Nat) (D0 : DataW H) (R : Value → Option (DataW H × List MemPlace)) (w : World) (hown : w.ownsMap Try.prog 9 R b nn D0) (hmax : Maps.size D0 ≤ maxLen) (hbytes : Maps.size D0 * 16 ≤ 140737488355328) :
    CallsIn Fence.wide 5 Try.prog 30 #[.func (.func 48) #[] #[.pointer (some ⟨w.heap.size, 0, none⟩)]] (w.alloc (.cells #[.map (some b)] 70)) fun e w' => ∃ (v : Value) (ss : List (List UInt8)), e = .returned v ∧ ss.Perm (strKeys D0) ∧
      w'.ownsRow (w.alloc (.cells #[.map (some b)] 70)).heap.size 9 1 v ss.length ((ss.mergeSort (fun x y => decide (x ≤ y))).map encStr) ∧ (v = .slice none 0 0 ↔ ss = []) ∧ Below (w.alloc (.cells #[.map (some b)] 70)).heap.size (w.alloc (.cells #[.map (some b)] 70)) w' := by
  have hbl := hown.lt
  have hseq : SeqGives Fence.wide 2 Try.prog 48 #[.pointer (some ⟨w.heap.size, 0, none⟩)] encStr (fun ss => ss.Perm (strKeys D0)) (Maps.size D0) (w.alloc (.cells #[.map (some b)] 70)) :=
    AnyZ.keys_gives (ρ := Try.keysL_ren) { Try.keysL with } Fence.wide _ trivial rfl (by omega) w.heap.size b nn D0 _ (by simp) (by simp) (by
      obtain ⟨es, clock, hb, Ft, hs, hD⟩ := hown
      exact ⟨es, clock, (Below.heap_alloc _ _ b hbl).trans hb, Ft, hs, hD⟩)
  exact AnyZ.sorted_in Try.sortedL Fence.wide 5 trivial trivial trivial trivial rfl (by omega) (Try.sortsK _) (enters_of Try.func47 (by kernel_rfl) rfl) 48 #[.pointer (some ⟨w.heap.size, 0, none⟩)] trivial (enters_of Try.func48 (by kernel_rfl) rfl) _ _ hmax hbytes _ hseq

end Go.Proofs
namespace Go.Proofs.Ytmocpglnoehknaa
set_option linter.unusedVariables false
set_option linter.unusedSimpArgs false
open Go.RowKit Go.Maps Go.Sort Go.Shelf Go.Proofs.YtmocpglnoehknaaW.PrintWords Go.Proofs.YtmocpglnoehknaaW.PrintLast Go.Proofs.YtmocpglnoehknaaW.PrintMore Go.Proofs.Ytmocpglnoehknaa.QT
namespace Buf
theorem blk_lt' {w : World} {b : Nat} {o : Obj} (h : w.heap[b]? = some o) : b < w.heap.size := (Array.getElem?_eq_some_iff.1 h).1
/-- The keys of an empty map, sorted: nil. -/
theorem keys_none (w : World) (mb : Nat) (h : w.heap[mb]? = some (.map #[] 0)) :
    Calls Try.prog 30 #[.func (.func 48) #[] #[.pointer (some ⟨w.heap.size, 0, none⟩)]] (w.alloc (.cells #[.map (some mb)] 70)) fun e w' => e = .returned (.slice none 0 0) ∧ Below (w.alloc (.cells #[.map (some mb)] 70)).heap.size (w.alloc (.cells #[.map (some mb)] 70)) w' := by
  refine (callsIn_wide.1 (Try.slices_Sorted_keys (H := Unit) mb 0 (.map []) (fun _ => none) w ⟨#[], 0, h, ⟨by simp, MapKept.stamped_empty 0, by simp⟩, by simp, rfl⟩ (by decide) (by decide))).mono ?_
  rintro e w' ⟨v, ss, rfl, hs, hr, hn, hb⟩
  have : ss = [] := List.Perm.eq_nil hs
  exact ⟨by rw [hn.2 this], hb⟩
set_option maxHeartbeats 1000000 in
theorem take_none (w : World) (g b : Nat) (m : Mp) (ver : Int) (h : Is w g b m ver) (blk : Int) (hn : ∀ e ∈ m, e.1.blk ≠ blk) :
    Calls Try.prog 18 #[.pointer (some ⟨g, 0, none⟩), .int .i64 blk] w fun e w' => e = .returned (.tuple #[.slice none 0 0, .int .i64 ver]) ∧ Below w.heap.size w w' := by
  have HI := Lib.hid h
  have HN0 := Lib.hid hn
  have hmm := @run_makeMap Try.prog
  have c0 : (w.alloc (.map #[] 0)).cell? ⟨g, 0, none⟩ = some (.map (some b)) := (blk_cell (blk_alloc h.1 _) 0).trans rfl
  clear h hn
  go_enter Try.func18, Try.ntmps18
  go_wp2_with (at_range; refine XM.wp_range _ rfl _ 59 rfl 63 65 Try.underlying59 b m rfl (HI.out.below (below_alloc (Below.refl _ _) _)).2 ?_; intro w0 hrg0 hg0 hs0; have HR0 := Lib.hid (And.intro hrg0 (And.intro hg0 hs0)); clear hrg0 hg0 hs0)
  go_frame
  have HB0 := Aside0.mk (show Below w.heap.size w w0 from (below_alloc (Below.refl _ _) _).grown HR0.out.2.1 (by simp) (by simp))
  have hmb0 : w0.heap[w.heap.size]? = some (.map #[] 0) := (HR0.out.2.1.block _ (by simp) (by simp)).trans (MapKept.heap_alloc w _).1
  have HM0 := Aside0.mk hmb0
  have HS0 := Aside0.mk HR0.out.1
  have HRR := Aside0.mk (show (w.alloc (.map #[] 0)).heap.size = w.heap.size + 1 by simp)
  obtain ⟨r, hr⟩ : ∃ r, r = (w.alloc (.map #[] 0)).heap.size := ⟨_, rfl⟩
  rw [← hr] at HS0 HRR ⊢
  clear hr hmb0 HR0
  go_loopg [] m.length (fun gn wr => ∃ (left : Mp), Aside0 (XM.RangeIs Try.prog 63 ekP evH wr b r m left) ∧ Aside0 (gn = left.length) ∧ Aside0 (wr.heap[w.heap.size]? = some (.map #[] 0)) ∧ Aside0 (Below w.heap.size w wr))
  case atStart => exact ⟨m, HS0, ⟨rfl⟩, HM0, HB0⟩
  case round =>
    obtain ⟨left, HS, HN, HM, HB⟩ := hrel
    clear HS0 HM0 HB0
    go_wp2_with (at_next; refine XM.wp_next _ rfl _ rfl 63 b r m left rfl HS.out ?_ ?_)
    · intro hleft
      clear hleft HN
      have HK := Lib.hid (callsIn_wide.1 (Try.maps_Keys (some w.heap.size) wr))
      have HK2 := Lib.hid (keys_none wr w.heap.size HM.out)
      go_wp2_with fail
      with_reducible refine HK.out.mono ?_
      rintro e W1 ⟨rfl, rfl⟩
      go_wp2_with fail
      with_reducible refine HK2.out.mono ?_
      rintro e W2 ⟨rfl, hB2⟩
      have HB2 := Aside0.mk (show Below w.heap.size w W2 from below_then (below_alloc HB.out _) (by have := HB.out.size; simp; omega) hB2)
      have hG2 := (HI.out.below HB2.out).1
      have d1 : W2.cell? ⟨g, 1, none⟩ = some (.int .i64 ver) := (blk_cell hG2 1).trans rfl
      clear hB2 hG2 HK HK2 HM HS HB
      go_wp2_with fail
      go_loopg [9, 43] 0 (fun gn l x wr => Aside0 (l = .slice none 0 0) ∧ Aside0 (x = .int .i64 0) ∧ Aside0 (wr = W2))
      case atStart => exact ⟨⟨rfl⟩, ⟨rfl⟩, ⟨rfl⟩⟩
      case round =>
        obtain ⟨⟨hl⟩, ⟨hx⟩, ⟨hw⟩⟩ := hrel
        subst hl
        subst hx
        subst hw
        go_wp2_with fail
        go_region
        all_goals
          go_wp2_with fail
          go_ret2
          exact ⟨rfl, below_drew HB2.out⟩
    · intro l1 l2 x y w1 hl hrg hg1 hs1 hen
      have HL := Aside0.mk hl
      have HS1 := Aside0.mk hrg
      have hrlt : w.heap.size ≤ r := by have := HRR.out; omega
      have HB1 := Aside0.mk (HB.out.grown hg1 HB.out.size (fun j hj => by cases hj; exact hrlt))
      have HM1 := Aside0.mk (show w1.heap[w.heap.size]? = some (.map #[] 0) from (hg1.block _ (blk_lt' HM.out) (fun e => by have := HRR.out; cases e; omega)).trans HM.out)
      have hmem : (x, y) ∈ m := HS.out.sub.subset (by rw [hl]; simp)
      have hne := HN0.out _ hmem
      have hw : (x.blk == blk) = false := by simpa using hne
      have hgn : (l1 ++ l2).length < gk := by rw [HN.out, hl]; simp
      have HGN := Aside0.mk hgn
      clear hl hrg hg1 hs1 hmem hne hgn HN HM HB HS hrlt
      simp only [ekP, evH] at hen ⊢
      go_wp2_with fail
      go_roundg (l1 ++ l2).length
      case measure => exact HGN.out
      case rel =>
        have hbb : Below w1.heap.size w1 ((w1.alloc (.cells #[.int .i64 x.blk, .string x.idn, .int .i64 x.tm] 63)).alloc (.cells #[.int .i64 y.p.f0, .int .u64 y.p.f1, .int .u64 y.p.f2, .int .i64 y.ver] 65)) := below_alloc (below_alloc (Below.refl _ _) _) _
        exact ⟨l1 ++ l2, ⟨HS1.out.below hbb⟩, ⟨rfl⟩, ⟨(hbb.block _ (blk_lt' HM1.out)).trans HM1.out⟩, ⟨below_alloc (below_alloc HB1.out _) _⟩⟩
end Buf
end Go.Proofs.Ytmocpglnoehknaa
