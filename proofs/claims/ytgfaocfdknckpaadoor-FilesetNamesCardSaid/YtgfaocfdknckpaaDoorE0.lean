/- The reference's digits: the decimal numeral of a number from 0 on. -/
import Derived.Test.YtgfaocfdknckpaaDoorProg
import Derived.Test.YtgfaocfdknckpaaDoorWWords
import Derived.Lib.ItoaMem
import Derived.Lib.ItoaLen
import Derived.WalkKit
import Derived.Deep.QuietTactic
import Derived.BigQuiet
import Derived.IntWalk
import Derived.Lib.Hide
import Derived.WalkSpells
import Derived.WalkLawsBesides
namespace Go.Proofs.YtgfaocfdknckpaaDoor
open Go.RowKit Go.Proofs.YtgfaocfdknckpaaDoorW.PrintWords

def tenDigits : ByteArray := ⟨#[48, 49, 50, 51, 52, 53, 54, 55, 56, 57]⟩
theorem ten_piece : ∀ i : Fin 10, tenDigits.extract i.val (i.val + 1) = ⟨#[UInt8.ofNat (48 + i.val)]⟩ := by decide +kernel
theorem dec_step (u : Nat) (h : ¬ u < 10) : Lib.decDigits u = Lib.decDigits (u / 10) ++ [UInt8.ofNat (48 + u % 10)] := by
  rw [Lib.decDigits, dif_neg h]

set_option maxHeartbeats 1000000 in
theorem digits_any (u : Nat) : ∀ (w : World), u ≤ 9223372036854775807 →
    Calls Tryd.prog 14 #[.int .i64 u] w fun e w' => e = .returned (.string ⟨(Lib.decDigits u).toArray⟩) ∧ ∃ n, w' = w.drewN n := by
  induction u using Nat.strongRecOn with
  | _ u ih =>
  intro w hu
  by_cases h : u < 10
  · have hs : tenDigits.extract u (u + 1) = ⟨#[UInt8.ofNat (48 + u)]⟩ := ten_piece ⟨u, h⟩
    have hd := Lib.decDigits_one h
    go_enter Tryd.func14, Tryd.ntmps14
    go_wp2
    go_ret
    refine ⟨?_, 0, rfl⟩
    rw [hd]
    exact congrArg (fun s => Ending.returned (Value.string s)) hs
  · have hq : u / 10 < u := by omega
    have hb : u / 10 ≤ 9223372036854775807 := by omega
    have IH : Hid (∀ W : World, Calls Tryd.prog 14 #[.int .i64 ((u : Int) / 10)] W fun e w' => e = .returned (.string ⟨(Lib.decDigits (u / 10)).toArray⟩) ∧ ∃ n, w' = W.drewN n) := Lib.hid (fun W => by have := ih (u / 10) hq W hb; rwa [show ((u / 10 : Nat) : Int) = (u : Int) / 10 from by omega] at this)
    have hs : Hid (tenDigits.extract (u % 10) (u % 10 + 1) = ⟨#[UInt8.ofNat (48 + u % 10)]⟩) := Lib.hid (ten_piece ⟨u % 10, Nat.mod_lt _ (by decide)⟩)
    have hd := Lib.hid (dec_step u h)
    have hlen : (Lib.decDigits (u / 10)).length ≤ 20 := by rw [Lib.decDigits_length]; exact Lib.nDigits_le20 _ (by omega)
    have w1 : IntKind.i64.wrap ((u : Int) / 10) = (u : Int) / 10 := IntWalk.i64_in _ (by omega)
    have w2 : IntKind.i64.wrap ((u : Int) % 10 + 1) = (u : Int) % 10 + 1 := IntWalk.i64_in _ (by omega)
    have l1 : (0 : Int) ≤ (u : Int) % 10 := by omega
    have l2 : (u : Int) % 10 + 1 ≤ 10 := by omega
    clear ih hb
    go_enter Tryd.func14, Tryd.ntmps14
    go_wp2
    go_quiet ((go_at_call 14; exact Calls.quiet_of (IH.out _)))
    go_wp2
    go_ret
    refine ⟨?_, _, rfl⟩
    rw [hd.out]
    have e := congrArg (fun s : ByteArray => Ending.returned (Value.string ((⟨(Lib.decDigits (u / 10)).toArray⟩ : ByteArray) ++ s))) hs.out
    refine e.trans ?_
    congr 2

def thermographref10_digits.f (a0 : Int) : Option ByteArray := if 0 ≤ a0 ∧ a0 ≤ 9223372036854775807 then some ⟨(Lib.itoa a0).toArray⟩ else none
theorem thermographref10_digits.calls (a0 : Int) (r : ByteArray) (w : World) (h : thermographref10_digits.f a0 = some r) :
    Calls Tryd.prog 14 #[.int .i64 a0] w fun e w' => e = .returned (.string r) ∧ Drawn0 w w' := by
  unfold thermographref10_digits.f at h
  split at h
  · rename_i hb
    cases h
    obtain ⟨u, rfl⟩ : ∃ u : Nat, a0 = u := ⟨a0.toNat, by omega⟩
    refine (digits_any u w (by omega)).mono fun e w' ⟨he, hw⟩ => ⟨?_, ⟨hw⟩⟩
    rw [he, Lib.itoa_nonneg]
  · cases h
end Go.Proofs.YtgfaocfdknckpaaDoor
