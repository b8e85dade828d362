/- slices.IndexFunc at Owners and at shards, whatever the predicate; placement.find, owner: where a node stands among owners. -/
import Derived.Test.YtiinmagnpkfbbaaQT0
import Derived.WalkKit
import Derived.Lib.Hide
import Derived.Outline
import Derived.Deep.LoopGhost
namespace Go.Proofs.Ytiinmagnpkfbbaa
set_option linter.unusedVariables false
set_option linter.unusedSimpArgs false
open Go.RowKit Go.Proofs.YtiinmagnpkfbbaaW.PrintWords Go.Proofs.YtiinmagnpkfbbaaW.PrintLast Go.Proofs.YtiinmagnpkfbbaaW.PrintMore Go.Proofs.Ytiinmagnpkfbbaa.QT
namespace Pl
abbrev Ow := S38
/-- Where the first one stands of which p holds; -1: nowhere. -/
def ixFrom {α : Type} (p : α → Bool) : List α → Nat → Int
  | [], _ => -1
  | x :: r, i => if p x = true then (i : Int) else ixFrom p r (i + 1)
def ix {α : Type} (p : α → Bool) (l : List α) : Int := ixFrom p l 0
theorem ix_drop {α : Type} (p : α → Bool) {l : List α} {i : Nat} (h : i < l.length) : ixFrom p (l.drop i) i = if p l[i] = true then (i : Int) else ixFrom p (l.drop (i + 1)) (i + 1) := by
  rw [List.drop_eq_getElem_cons h]
  rfl
theorem rd38 {l : List Ow} {i : Nat} (h : i < l.length) : rd_T38 l (i : Int) = l[i] := by unfold rd_T38; rw [Int.toNat_natCast, List.getD_eq_getElem?_getD, List.getElem?_eq_getElem h]; rfl
theorem rdL {l : List (List Ow)} {i : Nat} (h : i < l.length) : rd_L4 l (i : Int) = l[i] := by unfold rd_L4; rw [Int.toNat_natCast, List.getD_eq_getElem?_getD, List.getElem?_eq_getElem h]; rfl
set_option maxHeartbeats 9223372036854775807 in
theorem indexO_calls (w : World) (A : Option Addr) (c : Nat) (l : List Ow) (hC : Kd.C k38 w A l.length l) (hl : l.length ≤ 9223372036854775807) (g : Nat) (cb : Array Value) (eg : ∀ args w, (callFunc g args).run Try.prog w = .ok (.enter g args) w) (p : Ow → Bool)
    (hp : ∀ W, Below w.heap.size w W → ∀ x : Ow, Calls Try.prog g (#[.agg #[.int .i64 x.f0, .int .i64 x.f1, .int .i64 x.f2]] ++ cb) W fun e w' => e = .returned (.bool (p x)) ∧ Below W.heap.size W w') :
    Calls Try.prog 52 #[.slice A l.length c, .func (.func g) #[] cb] w fun e w' => e = .returned (.int .i64 (ix p l)) ∧ Below w.heap.size w w' := by
  have HC := Lib.hid hC
  have HP := Lib.hid hp
  clear hC hp
  go_enter Try.func52, Try.ntmps52
  go_wp2_with fail
  go_loopg [8] l.length (fun gn v8 wr => ∃ (i : Nat), v8 = .int .i64 (i : Int) ∧ Aside0 (gn = l.length - i) ∧ Aside0 (i ≤ l.length) ∧ Aside0 (ix p l = ixFrom p (l.drop i) i) ∧ Aside0 (Below w.heap.size w wr))
  case atStart => exact ⟨0, rfl, ⟨rfl⟩, ⟨Nat.zero_le _⟩, ⟨rfl⟩, ⟨Below.refl _ _⟩⟩
  case round =>
    obtain ⟨i, rfl, HN, HI, HX, HB⟩ := hrel
    by_cases hi : i < l.length
    · have hi0 : (i : Int) < (l.length : Int) := by omega
      have hwr : wrap64 ((i : Int) + 1) = (i : Int) + 1 := by unfold wrap64; omega
      obtain ⟨ad, ead, q0, q1, q2⟩ := at_T38 (Kd.C_below HC.out HB.out) (i : Int) (by omega) hi0
      cases ead
      have hto : ((i : Int)).toNat = i := Int.toNat_natCast i
      rw [hto] at q0 q1 q2
      obtain ⟨o, ho⟩ : ∃ o, rd_T38 l (i : Int) = o := ⟨_, rfl⟩
      rw [ho] at q0 q1 q2
      have hLi : l[i] = o := by rw [← ho, rd38 hi]
      have hd := ix_drop p hi
      rw [hLi] at hd
      have HD := Lib.hid hd
      have HK := Lib.hid (HP.out wr HB.out o)
      clear ho hLi hd hto
      go_wp2_with fail
      with_reducible refine HK.out.mono ?_
      rintro e w1 ⟨rfl, hb1⟩
      have HB1 := Lib.hid (below_then HB.out HB.out.size hb1)
      clear hb1 HK q0 q1 q2
      cases hpo : p o with
      | true =>
        have HPO := Lib.hid hpo
        clear hpo
        go_wp2
        go_ret
        rw [HX.out, HD.out, if_pos HPO.out]
        exact ⟨rfl, HB1.out⟩
      | false =>
        have HPO := Lib.hid hpo
        clear hpo
        go_wp2
        go_roundg (l.length - (i + 1))
        case measure => have := HN.out; omega
        case rel => exact ⟨i + 1, by first | (simp [hwr]; done) | (simp; done), ⟨rfl⟩, ⟨hi⟩, ⟨by rw [HX.out, HD.out, if_neg (by rw [HPO.out]; simp)]⟩, ⟨HB1.out⟩⟩
    · have hge : ¬ (i : Int) < (l.length : Int) := by omega
      have hx := HX.out
      rw [List.drop_eq_nil_of_le (by omega)] at hx
      have HXX := Lib.hid hx
      clear hx HX
      go_wp2
      go_ret
      rw [HXX.out]
      exact ⟨rfl, HB.out⟩
set_option maxHeartbeats 9223372036854775807 in
theorem indexS_calls (w : World) (A : Option Addr) (c : Nat) (l : List (List Ow)) (hC : Kd.C (Kd.slice 38 k38) w A l.length l) (hl : l.length ≤ 9223372036854775807) (g : Nat) (cb : Array Value) (eg : ∀ args w, (callFunc g args).run Try.prog w = .ok (.enter g args) w) (p : List Ow → Bool)
    (hp : ∀ W, Below w.heap.size w W → ∀ (x : List Ow), x ∈ l → ∀ (A1 : Option Addr) (c1 : Nat), Kd.C k38 W A1 x.length x → x.length ≤ c1 → Calls Try.prog g (#[.slice A1 x.length c1] ++ cb) W fun e w' => e = .returned (.bool (p x)) ∧ Below W.heap.size W w') :
    Calls Try.prog 45 #[.slice A l.length c, .func (.func g) #[] cb] w fun e w' => e = .returned (.int .i64 (ix p l)) ∧ Below w.heap.size w w' := by
  have HC := Lib.hid hC
  have HP := Lib.hid hp
  clear hC hp
  go_enter Try.func45, Try.ntmps45
  go_wp2_with fail
  go_loopg [8] l.length (fun gn v8 wr => ∃ (i : Nat), v8 = .int .i64 (i : Int) ∧ Aside0 (gn = l.length - i) ∧ Aside0 (i ≤ l.length) ∧ Aside0 (ix p l = ixFrom p (l.drop i) i) ∧ Aside0 (Below w.heap.size w wr))
  case atStart => exact ⟨0, rfl, ⟨rfl⟩, ⟨Nat.zero_le _⟩, ⟨rfl⟩, ⟨Below.refl _ _⟩⟩
  case round =>
    obtain ⟨i, rfl, HN, HI, HX, HB⟩ := hrel
    by_cases hi : i < l.length
    · have hi0 : (i : Int) < (l.length : Int) := by omega
      have hwr : wrap64 ((i : Int) + 1) = (i : Int) + 1 := by unfold wrap64; omega
      obtain ⟨ad, A1, c1, ead, q0, hc1, hC1⟩ := at_L4 (Kd.C_below HC.out HB.out) (i : Int) (by omega) hi0
      cases ead
      have hto : ((i : Int)).toNat = i := Int.toNat_natCast i
      rw [hto] at q0
      obtain ⟨o, ho⟩ : ∃ o, rd_L4 l (i : Int) = o := ⟨_, rfl⟩
      rw [ho] at q0 hc1 hC1
      have hLi : l[i] = o := by rw [← ho, rdL hi]
      have hd := ix_drop p hi
      rw [hLi] at hd
      have HD := Lib.hid hd
      have HK := Lib.hid (HP.out wr HB.out o (by rw [← hLi]; exact List.getElem_mem hi) A1 c1 hC1 hc1)
      clear ho hLi hd hto hc1 hC1
      go_wp2_with fail
      with_reducible refine HK.out.mono ?_
      rintro e w1 ⟨rfl, hb1⟩
      have HB1 := Lib.hid (below_then HB.out HB.out.size hb1)
      clear hb1 HK q0
      cases hpo : p o with
      | true =>
        have HPO := Lib.hid hpo
        clear hpo
        go_wp2
        go_ret
        rw [HX.out, HD.out, if_pos HPO.out]
        exact ⟨rfl, HB1.out⟩
      | false =>
        have HPO := Lib.hid hpo
        clear hpo
        go_wp2
        go_roundg (l.length - (i + 1))
        case measure => have := HN.out; omega
        case rel => exact ⟨i + 1, by first | (simp [hwr]; done) | (simp; done), ⟨rfl⟩, ⟨hi⟩, ⟨by rw [HX.out, HD.out, if_neg (by rw [HPO.out]; simp)]⟩, ⟨HB1.out⟩⟩
    · have hge : ¬ (i : Int) < (l.length : Int) := by omega
      have hx := HX.out
      rw [List.drop_eq_nil_of_le (by omega)] at hx
      have HXX := Lib.hid hx
      clear hx HX
      go_wp2
      go_ret
      rw [HXX.out]
      exact ⟨rfl, HB.out⟩
set_option maxHeartbeats 400000 in
theorem findO_calls (w : World) (A : Option Addr) (c : Nat) (l : List Ow) (hC : Kd.C k38 w A l.length l) (hl : l.length ≤ 9223372036854775807) (g : Nat) (cb : Array Value) (eg : ∀ args w, (callFunc g args).run Try.prog w = .ok (.enter g args) w) (p : Ow → Bool)
    (hp : ∀ W, Below w.heap.size w W → ∀ x : Ow, Calls Try.prog g (#[.agg #[.int .i64 x.f0, .int .i64 x.f1, .int .i64 x.f2]] ++ cb) W fun e w' => e = .returned (.bool (p x)) ∧ Below W.heap.size W w') :
    Calls Try.prog 43 #[.slice A l.length c, .func (.func g) #[] cb] w fun e w' => e = .returned (.int .i64 (ix p l)) ∧ Below w.heap.size w w' := by
  have HK := Lib.hid (indexO_calls w A c l hC hl g cb eg p hp)
  clear hC hp
  go_enter Try.func43, Try.ntmps43
  go_wp2_with fail
  with_reducible refine HK.out.mono ?_
  rintro e w1 ⟨rfl, hb1⟩
  have HB1 := Lib.hid hb1
  clear hb1 HK
  go_wp2
  go_ret
  exact ⟨rfl, HB1.out⟩
set_option maxHeartbeats 400000 in
theorem findS_calls (w : World) (A : Option Addr) (c : Nat) (l : List (List Ow)) (hC : Kd.C (Kd.slice 38 k38) w A l.length l) (hl : l.length ≤ 9223372036854775807) (g : Nat) (cb : Array Value) (eg : ∀ args w, (callFunc g args).run Try.prog w = .ok (.enter g args) w) (p : List Ow → Bool)
    (hp : ∀ W, Below w.heap.size w W → ∀ (x : List Ow), x ∈ l → ∀ (A1 : Option Addr) (c1 : Nat), Kd.C k38 W A1 x.length x → x.length ≤ c1 → Calls Try.prog g (#[.slice A1 x.length c1] ++ cb) W fun e w' => e = .returned (.bool (p x)) ∧ Below W.heap.size W w') :
    Calls Try.prog 29 #[.slice A l.length c, .func (.func g) #[] cb] w fun e w' => e = .returned (.int .i64 (ix p l)) ∧ Below w.heap.size w w' := by
  have HK := Lib.hid (indexS_calls w A c l hC hl g cb eg p hp)
  clear hC hp
  go_enter Try.func29, Try.ntmps29
  go_wp2_with fail
  with_reducible refine HK.out.mono ?_
  rintro e w1 ⟨rfl, hb1⟩
  have HB1 := Lib.hid hb1
  clear hb1 HK
  go_wp2
  go_ret
  exact ⟨rfl, HB1.out⟩
set_option maxHeartbeats 400000 in
theorem owner1_calls (W : World) (x : Ow) (gb : Nat) (n : Int) (hb : W.heap[gb]? = some (.cells #[.int .i64 n] 3 (0, 0))) :
    Calls Try.prog 44 (#[.agg #[.int .i64 x.f0, .int .i64 x.f1, .int .i64 x.f2]] ++ #[.pointer (some ⟨gb, 0, none⟩)]) W fun e w' => e = .returned (.bool (x.f0 == n)) ∧ Below W.heap.size W w' := by
  have HL := Lib.hid (below_alloc (Below.refl W.heap.size W) (.cells #[.int .i64 x.f0, .int .i64 x.f1, .int .i64 x.f2] 38))
  have c0 : (W.alloc (.cells #[.int .i64 x.f0, .int .i64 x.f1, .int .i64 x.f2] 38)).cell? ⟨gb, 0, none⟩ = some (.int .i64 n) := (blk_cell (blk_alloc hb _) 0).trans rfl
  clear hb
  go_enter Try.func44, Try.ntmps44
  go_wp2
  go_ret
  exact ⟨rfl, HL.out⟩
def at_ (n : Int) (x : Ow) : Bool := x.f0 == n
theorem enter44 : ∀ args w, (callFunc 44 args).run Try.prog w = .ok (.enter 44 args) w := fun args w => by kernel_rfl
set_option maxHeartbeats 400000 in
theorem owner_calls (w : World) (A : Option Addr) (c : Nat) (l : List Ow) (hC : Kd.C k38 w A l.length l) (hl : l.length ≤ 9223372036854775807) (n : Int) :
    Calls Try.prog 27 #[.slice A l.length c, .int .i64 n] w fun e w' => e = .returned (.int .i64 (ix (at_ n) l)) ∧ Below w.heap.size w w' := by
  have hal := below_alloc (Below.refl w.heap.size w) (.cells #[.int .i64 n] 3)
  have hbx : (w.alloc (.cells #[.int .i64 n] 3)).heap[w.heap.size]? = some (.cells #[.int .i64 n] 3 (0, 0)) := blk_new w _
  have HK := Lib.hid (findO_calls (w.alloc (.cells #[.int .i64 n] 3)) A c l (Kd.C_below hC hal) hl 44 #[.pointer (some ⟨w.heap.size, 0, none⟩)] enter44 (at_ n) (fun W hW x => owner1_calls W x _ n (blk_below hbx hW)))
  have HL := Lib.hid hal
  clear hC hal hbx
  go_enter Try.func27, Try.ntmps27
  go_wp2_with fail
  with_reducible refine HK.out.mono ?_
  rintro e w1 ⟨rfl, hb1⟩
  have HB1 := Lib.hid (below_then HL.out HL.out.size hb1)
  clear hb1 HK
  go_wp2
  go_ret
  exact ⟨rfl, HB1.out⟩
end Pl
end Go.Proofs.Ytiinmagnpkfbbaa
