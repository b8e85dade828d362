/- repair.Plan where nothing differs; Alike of one; heavy. -/
import Derived.Test.YtcdpcgcfonjnfaaRepDiff
import Derived.Test.YtcdpcgcfonjnfaaRepRef
import Derived.Test.YtcdpcgcfonjnfaaQT2
namespace Go.Proofs.Ytcdpcgcfonjnfaa
set_option linter.unusedVariables false
set_option linter.unusedSimpArgs false
open Go.RowKit Go.Proofs.YtcdpcgcfonjnfaaW.PrintWords Go.Proofs.YtcdpcgcfonjnfaaW.PrintLast Go.Proofs.YtcdpcgcfonjnfaaW.PrintMore Go.Proofs.Ytcdpcgcfonjnfaa.QT
namespace Rp
abbrev kLL : Kd (List Mt) := Kd.slice 56 k56
set_option maxHeartbeats 2000000 in
theorem ins35_nil (f : Value) (w : World) : Calls Try.prog 35 #[.slice none 0 0, .int .i64 0, .int .i64 0, f] w fun e w' => e = .returned (.tuple #[]) ∧ Below w.heap.size w w' := by
  have H0 := Lib.hid (Below.refl w.heap.size w)
  go_enter Try.func35, Try.ntmps35
  go_wp2
  go_loopg [8] 1 (fun gg s8 wr => s8 = .int .i64 1 ∧ Hid (Below w.heap.size w wr))
  case atStart => exact ⟨rfl, H0⟩
  case round =>
    obtain ⟨rfl, H⟩ := hrel
    go_wp2
    go_end0
    exact ⟨rfl, H.out⟩
set_option maxHeartbeats 4000000 in
set_option maxRecDepth 100000 in
theorem stable_nil (f : Value) (w : World) : Calls Try.prog 29 #[.slice none 0 0, .int .i64 0, f] w fun e w' => e = .returned (.tuple #[]) ∧ Below w.heap.size w w' := by
  have H0 := Lib.hid (Below.refl w.heap.size w)
  have HI := Lib.hid (fun w => ins35_nil f w)
  go_enter Try.func29, Try.ntmps29
  go_wp2_with fail
  go_loopg [7, 8] 1 (fun gg s7 s8 wr => s7 = .int .i64 0 ∧ s8 = .int .i64 20 ∧ Hid (Below w.heap.size w wr))
  case atStart => exact ⟨rfl, rfl, H0⟩
  case round =>
    obtain ⟨rfl, rfl, H⟩ := hrel
    go_wp2_with fail
    with_reducible refine (HI.out _).mono ?_
    rintro e w1 ⟨rfl, hb1⟩
    have HB := Lib.hid (below_then H.out H.out.size hb1)
    clear hb1 H
    go_wp2_with fail
    go_loopg [6, 7, 8, 9] 1 (fun gg s6 s7 s8 s9 wr => s6 = .int .i64 20 ∧ Hid (Below w.heap.size w wr))
    case atStart => exact ⟨rfl, HB⟩
    case round =>
      obtain ⟨rfl, H⟩ := hrel
      go_wp2
      go_end0
      exact ⟨rfl, H.out⟩
theorem sortstable_nil (f : Value) (w : World) : Calls Try.prog 20 #[.slice none 0 0, f] w fun e w' => e = .returned (.tuple #[]) ∧ Below w.heap.size w w' := by
  have HI := Lib.hid (fun w => stable_nil f w)
  go_enter Try.func20, Try.ntmps20
  go_wp2_with fail
  with_reducible refine (HI.out _).mono ?_
  rintro e w1 ⟨rfl, hb1⟩
  have HB := Lib.hid hb1
  clear hb1
  go_wp2
  go_end0
  exact ⟨rfl, HB.out⟩
theorem lit_one (W : World) (A : Option Addr) (c : Nat) (l : List Mt) (hl : Kd.C k56 W A l.length l) (hlc : l.length ≤ c) : Kd.C kLL (W.alloc (.cells #[.slice A l.length c] 22)) (some ⟨W.heap.size, 0, none⟩) 1 [l] := by
  refine ⟨rfl, by decide, fun _ => ⟨_, rfl, fun j p hj => ?_⟩⟩
  have hb := blk_new W (.cells #[.slice A l.length c] 22)
  match j, hj with
  | 0, hj =>
    cases hj
    refine ⟨[.slice A l.length c], rfl, ⟨A, c, rfl, hlc, Kd.C_below hl (below_alloc (Below.refl _ _) _)⟩, fun i u hu => ?_⟩
    match i, hu with
    | 0, hu => cases hu; exact (blk_cell hb 0).trans rfl
set_option maxHeartbeats 4000000 in
set_option maxRecDepth 100000 in
/-- Where nobody differs, nothing is planned. -/
theorem plan_none (w : World) (A : Option Addr) (c : Nat) (own : List Mt) (hC : Kd.C k56 w A own.length own) (hok : OkL own) (hn : own.length ≤ 1000000) (A' : Option Addr) (c' : Nat) (L : List (List Mt)) (hL : Kd.C kLL w A' L.length L) (hokL : ∀ l ∈ L, OkL l ∧ l.length ≤ 1000000 ∧ ∀ p, ¬ dif own l p) :
    Calls Try.prog 8 #[.slice A own.length c, .slice A' L.length c'] w fun e w' => e = .returned (.slice none 0 0) ∧ Below w.heap.size w w' := by
  have HD := Lib.hid (fun (W : World) (hW : Below w.heap.size w W) (A2 : Option Addr) (c2 : Nat) (l : List Mt) (hl : Kd.C k56 W A2 l.length l) (hm : l ∈ L) => diff_calls W A c own (Kd.C_below hC hW) hok hn A2 c2 l hl (hokL l hm).1 (hokL l hm).2.1)
  have HND := Lib.hid (fun (l : List Mt) (hm : l ∈ L) => (hokL l hm).2.2)
  have HL := Lib.hid hL
  have HLM := Lib.hid hL.2.1
  have H0 := Lib.hid (Below.refl w.heap.size w)
  clear hC hok hn hL hokL
  go_enter Try.func8, Try.ntmps8
  go_wp2_with fail
  go_loopg [5, 6, 7, 9, 12] L.length (fun gn v5 v6 v7 v9 v12 wr => ∃ (i : Nat), v12 = .int .i64 (i : Int) ∧ v5 = .slice none 0 0 ∧ Aside0 (gn = L.length - i) ∧ Aside0 (i ≤ L.length) ∧ Aside0 (Below w.heap.size w wr))
  case atStart => exact ⟨0, rfl, rfl, ⟨rfl⟩, ⟨Nat.zero_le _⟩, ⟨H0.out⟩⟩
  case round =>
    obtain ⟨i, rfl, rfl, HN, HI, HB⟩ := hrel
    by_cases hi : i < L.length
    · have hi0 : (i : Int) < (L.length : Int) := by omega
      have hwi := wrap_lt i L.length hi HLM.out
      obtain ⟨ad, A2, c2, e1, r0, hle, hC2⟩ := at_L4 HL.out (i : Int) (by omega) hi0
      cases e1
      rw [Int.toNat_natCast] at r0
      obtain ⟨x, hx⟩ : ∃ x, rd_L4 L (i : Int) = x := ⟨_, rfl⟩
      rw [hx] at r0 hle hC2
      have hxm : x ∈ L := by
        rw [← hx]
        unfold rd_L4
        rw [Int.toNat_natCast, List.getD_eq_getElem?_getD, List.getElem?_eq_getElem hi]
        exact List.getElem_mem hi
      have q0 := pw_cell_below HB.out r0
      have HDX := Lib.hid (HD.out wr HB.out A2 c2 x (Kd.C_below hC2 HB.out) hxm)
      have HNX := Lib.hid (HND.out x hxm)
      have HIN := Lib.hid (show ∀ k, k = L.length - i → L.length - (i + 1) < k by intro k hk; omega)
      clear hx hxm r0 hle hC2
      go_wp2_with fail
      with_reducible refine HDX.out.mono ?_
      rintro e w1 ⟨v, D, rfl, hD, hR, hb⟩
      have hDn := hD.nil HNX.out
      subst hDn
      obtain ⟨A1, c1, rfl⟩ := Kd.R_slice hR
      have HB1 := Lib.hid (below_then HB.out HB.out.size hb)
      clear hD hR hb HDX q0
      go_wp2_with fail
      go_loopg [5, 9, 21] 1 (fun gg s5 s9 s21 wq => s5 = .slice none 0 0 ∧ s21 = .int .i64 0 ∧ Aside0 (Below w.heap.size w wq))
      case atStart => exact ⟨rfl, rfl, ⟨HB1.out⟩⟩
      case round =>
        obtain ⟨rfl, rfl, HBQ⟩ := hrel
        go_wp2_with fail
        go_roundg (L.length - (i + 1))
        case measure => exact HIN.out _ HN.out
        case rel => exact ⟨i + 1, by first | rfl | (rw [hwi]; rfl) | (simp [hwi]; done) | (simp [hwi]; omega), rfl, ⟨rfl⟩, ⟨hi⟩, ⟨HBQ.out⟩⟩
    · have hge : ¬ (i : Int) < (L.length : Int) := by omega
      go_wp2_with fail
      with_reducible refine (sortstable_nil _ _).mono ?_
      rintro e w5 ⟨rfl, hb5⟩
      have HB5 := Lib.hid (below_then HB.out HB.out.size hb5)
      clear hb5
      go_wp2
      go_ret
      exact ⟨rfl, HB5.out⟩
theorem alike_one (w : World) (A : Option Addr) (c : Nat) : Calls Try.prog 9 #[.slice A 1 c] w fun e w' => e = .returned (.bool true) ∧ Below w.heap.size w w' := by
  have H0 := Lib.hid (Below.refl w.heap.size w)
  go_enter Try.func9, Try.ntmps9
  go_wp2_with fail
  go_loopg [3] 1 (fun gg s3 wr => s3 = .int .i64 1 ∧ Aside0 (Below w.heap.size w wr))
  case atStart => exact ⟨rfl, ⟨H0.out⟩⟩
  case round =>
    obtain ⟨rfl, HB⟩ := hrel
    go_wp2
    go_ret
    exact ⟨rfl, HB.out⟩
end Rp
end Go.Proofs.Ytcdpcgcfonjnfaa
