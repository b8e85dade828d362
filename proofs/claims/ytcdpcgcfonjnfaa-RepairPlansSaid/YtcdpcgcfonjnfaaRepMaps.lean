/- repair.placed; Diff's bound function; maps.DeleteFunc with it. -/
import Derived.Test.YtcdpcgcfonjnfaaRepPure
import Derived.WalkKit
import Derived.Lib.Hide
import Derived.Outline
import Derived.Deep.LoopGhost
import Derived.Maps.RangeWalk
namespace Go.Proofs.Ytcdpcgcfonjnfaa
set_option linter.unusedVariables false
set_option linter.unusedSimpArgs false
open Go.RowKit Go.Proofs.YtcdpcgcfonjnfaaW.PrintWords Go.Proofs.YtcdpcgcfonjnfaaW.PrintLast Go.Proofs.YtcdpcgcfonjnfaaW.PrintMore Go.Proofs.Ytcdpcgcfonjnfaa.QT
namespace Rp
def PM (w : World) (b : Nat) (m : Pm) : Prop := XM.MapIs Try.prog 32 ekP evK w b m
theorem zK : ∀ w, (zeroValue 47).run Try.prog w = .ok (.agg #[.int .i64 0, .int .u32 0]) w := fun w => by kernel_rfl
theorem wrap_lt (i n : Nat) (h : i < n) (hn : n ≤ 9223372036854775807) : wrap64 ((i : Int) + 1) = (i : Int) + 1 := by unfold wrap64; omega
theorem rdMt {l : List Mt} {i : Nat} (h : i < l.length) : rd_T56 l (i : Int) = l[i] := by
  unfold rd_T56
  rw [Int.toNat_natCast, List.getD_eq_getElem?_getD, List.getElem?_eq_getElem h]
  rfl
/-- What placed needs of a list: its metas' places may be keys. -/
def OkL (l : List Mt) : Prop := ∀ x ∈ l, OkP (plc x)
set_option maxHeartbeats 4000000 in
set_option maxRecDepth 100000 in
theorem placed_calls (w : World) (A : Option Addr) (c : Nat) (l : List Mt) (hC : Kd.C k56 w A l.length l) (hok : OkL l) (hn : l.length ≤ 1000000) :
    Calls Try.prog 12 #[.slice A l.length c] w fun e w' => ∃ b, e = .returned (.map (some b)) ∧ PM w' b (placeM l) ∧ w.heap.size ≤ b ∧ Below w.heap.size w w' := by
  have hmm := @run_makeMap Try.prog
  have HC := Lib.hid hC
  have HOK := Lib.hid hok
  have HL := Lib.hid hn
  have HM0 := Lib.hid (XM.MapIs.made Try.prog 32 ekP evK w)
  have HA0 := Lib.hid (below_alloc (Below.refl w.heap.size w) (.map #[] 0))
  clear hC hok hn
  go_enter Try.func12, Try.ntmps12
  go_wp2_with fail
  obtain ⟨b, hb⟩ : ∃ b, b = w.heap.size := ⟨_, rfl⟩
  have HBB := Lib.hid (show w.heap.size ≤ b from Nat.le_of_eq hb.symm)
  rw [← hb] at HM0
  try rw [← hb]
  clear hb
  go_loopg [5, 6, 7, 8, 12] l.length (fun gn v5 v6 v7 v8 v12 wr => ∃ (i : Nat), v12 = .int .i64 (i : Int) ∧ Aside0 (gn = l.length - i) ∧ Aside0 (i ≤ l.length) ∧ Aside0 (PM wr b (placeM (l.take i))) ∧ Aside0 (Below w.heap.size w wr))
  case atStart => exact ⟨0, rfl, ⟨rfl⟩, ⟨Nat.zero_le _⟩, ⟨HM0.out⟩, ⟨HA0.out⟩⟩
  case round =>
    obtain ⟨i, rfl, HN, HI, HM, HB⟩ := hrel
    clear HM0 HA0 hmm
    by_cases hi : i < l.length
    · have hi0 : (i : Int) < (l.length : Int) := by omega
      have hwi := wrap_lt i l.length hi (by have := HL.out; omega)
      obtain ⟨ad, e1, r0, r1, r2, r3⟩ := at_T56 HC.out (i : Int) (by omega) hi0
      cases e1
      rw [Int.toNat_natCast] at r0 r1 r2 r3
      obtain ⟨x, hx⟩ : ∃ x, rd_T56 l (i : Int) = x := ⟨_, rfl⟩
      rw [hx] at r0 r1 r2 r3
      have hxl : l[i] = x := by rw [← hx, rdMt hi]
      have hst := placeM_take hi
      rw [hxl] at hst
      have HST := Lib.hid hst
      have HIK := Lib.hid (isK (plc x) (HOK.out x (by rw [← hxl]; exact List.getElem_mem hi)))
      have HIN := Lib.hid (show ∀ k, k = l.length - i → l.length - (i + 1) < k by intro k hk; omega)
      have HML := Lib.hid (show (placeM (l.take i)).length < maxLen by have h1 := placeM_len (l.take i); rw [List.length_take] at h1; have := HL.out; unfold maxLen; omega)
      have q0 := pw_cell_below HB.out r0
      have q1 := pw_cell_below HB.out r1
      have q2 := pw_cell_below HB.out r2
      have q3 := pw_cell_below HB.out r3
      clear r0 r1 r2 r3 hx hst hxl
      have HW2 := Lib.hid (below_alloc (below_alloc (Below.refl wr.heap.size wr) (.cells #[.string x.f0, .int .i64 x.f1, .int .i64 x.f2, .int .u32 x.f3] 56)) (.cells #[.string x.f0, .int .i64 x.f1] 32))
      have HM2 := Lib.hid (XM.MapIs.below HM.out HW2.out)
      cases hg : XM.aget (placeM (l.take i)) (plc x) with
      | some v =>
        have HG := Lib.hid hg
        have HNX := Lib.hid (show placeM (l.take (i + 1)) = placeM (l.take i) by rw [HST.out]; unfold place1; rw [if_pos (by rw [hg]; rfl)])
        have HW3 := Lib.hid (below_alloc HW2.out (.cells #[.int .i64 v.count, .int .u32 v.sum] 47))
        clear hg
        go_wp2_with (at_lookup; go_loud (refine XM.wp_look_some_ok _ rfl _ _ 42 rfl 32 47 encP Try.underlying42 b (placeM (l.take i)) rfl HM2.out (plc x) rfl HIK.out v HG.out ?_); simp only [evK])
        go_roundg (l.length - (i + 1))
        case measure => exact HIN.out _ HN.out
        case rel => exact ⟨i + 1, by first | rfl | (rw [hwi]; rfl) | (simp [hwi]; done) | (simp [hwi]; omega), ⟨rfl⟩, ⟨hi⟩, ⟨by rw [HNX.out]; exact XM.MapIs.below HM.out HW3.out⟩, ⟨below_then HB.out HB.out.size HW3.out⟩⟩
      | none =>
        have HG := Lib.hid hg
        have HNX := Lib.hid (show placeM (l.take (i + 1)) = XM.aput (placeM (l.take i)) (plc x) (kpt x) by rw [HST.out]; unfold place1; rw [if_neg (by rw [hg]; simp)])
        have HW3 := Lib.hid (below_alloc HW2.out (.cells #[.int .i64 0, .int .u32 0] 47))
        have HM3 := Lib.hid (XM.MapIs.below HM.out HW3.out)
        clear hg
        go_wp2_with (first
          | (at_lookup; go_loud (refine XM.wp_look_none_ok _ rfl _ _ 42 rfl 32 47 encP Try.underlying42 (.agg #[.int .i64 0, .int .u32 0]) (zK _) b (placeM (l.take i)) rfl HM2.out (plc x) rfl HIK.out HG.out ?_))
          | (at_mapUpdate; go_loud (refine XM.wp_store _ rfl _ _ _ 42 rfl 32 47 encP Try.underlying42 b (placeM (l.take i)) rfl HM3.out HML.out (plc x) rfl HIK.out (kpt x) rfl ?_); intro w6 hm6 hg6 hs6; have HM6 := Lib.hid hm6; have HG6 := Lib.hid hg6; clear hm6 hg6 hs6))
        have HB6 := Lib.hid ((below_then HB.out HB.out.size HW3.out).grown HG6.out (below_then HB.out HB.out.size HW3.out).size (fun k hk => by cases hk; exact HBB.out))
        go_roundg (l.length - (i + 1))
        case measure => exact HIN.out _ HN.out
        case rel => exact ⟨i + 1, by first | rfl | (rw [hwi]; rfl) | (simp [hwi]; done) | (simp [hwi]; omega), ⟨rfl⟩, ⟨hi⟩, ⟨by rw [HNX.out]; exact HM6.out⟩, ⟨HB6.out⟩⟩
    · have hge : ¬ (i : Int) < (l.length : Int) := by omega
      have hie : i = l.length := by have := HI.out; omega
      have hm9 := HM.out
      rw [hie, List.take_length] at hm9
      have HM9 := Lib.hid hm9
      clear hm9 hie
      go_wp2
      go_ret
      exact ⟨b, rfl, HM9.out, HBB.out, HB.out⟩
end Rp
end Go.Proofs.Ytcdpcgcfonjnfaa
