/- The boots: hold, over a list of series. -/
import Derived.Test.YtiinmagnpkfbbaaHoldW
import Derived.Deep.Light
namespace Go.Proofs.Ytiinmagnpkfbbaa
set_option linter.unusedVariables false
set_option linter.unusedSimpArgs false
open Go.RowKit Go.Proofs.YtiinmagnpkfbbaaW.PrintWords Go.Proofs.YtiinmagnpkfbbaaW.PrintLast Go.Proofs.YtiinmagnpkfbbaaW.PrintMore Go.Proofs.Ytiinmagnpkfbbaa.QT
namespace Hm
theorem wrap_lt (i n : Nat) (h : i < n) (hn : n ≤ 9223372036854775807) : wrap64 ((i : Int) + 1) = (i : Int) + 1 := by unfold wrap64; omega
theorem serW_take {l : List Hv.Ser} {i : Nat} (h : i < l.length) : Hv.serW (l.take (i + 1)) = Hv.serW (l.take i) + (l[i].f0.size + l[i].f1.length) := by
  unfold Hv.serW
  rw [List.take_succ_eq_append_getElem h, List.map_append, List.sum_append]
  simp
theorem serW_take_le (l : List Hv.Ser) (i : Nat) : Hv.serW (l.take i) ≤ Hv.serW l := by
  conv => rhs; rw [← List.take_append_drop i l]
  unfold Hv.serW
  rw [List.map_append, List.sum_append]
  omega
theorem fold_take {l : List Hv.Ser} {i : Nat} (h : i < l.length) (n : Rg.R) (c : Cn) : (l.take (i + 1)).foldl (add1 n) c = add1 n ((l.take i).foldl (add1 n) c) l[i] := by
  rw [List.take_succ_eq_append_getElem h, List.foldl_append]
  rfl
set_option maxHeartbeats 4000000 in
set_option maxRecDepth 100000 in
theorem hold_calls (w0 w : World) (g gm gp : Nat) (vO vL : Value) (b : Bt.Bo) (hm : Hp) (T : Nat) (hI : Bt.Is w w0.heap.size g gm gp vO vL b) (hM : HM w gp w0.heap.size T hm) (hb : Below w0.heap.size w0 w)
    (A : Option Addr) (c : Nat) (l : List Hv.Ser) (hl : Kd.C k71 w0 A l.length l) (hids : ∀ x ∈ l, x.f0.size ≤ maxLen) (hT : T + Hv.serW l ≤ 1000000) :
    Calls Try.prog 25 #[.pointer (some ⟨g, 0, none⟩), .slice A l.length c] w fun e w' => e = .returned (.tuple #[]) ∧
      ∃ hm', HM w' gp w0.heap.size (T + Hv.serW l) hm' ∧ cont hm' = l.foldl (add1 b.need) (cont hm) ∧ Bt.Is w' w0.heap.size g gm gp vO vL { b with pts := pmOf hm' } ∧ Below w0.heap.size w0 w' ∧ Kp w w' gp := by
  have HI := Lib.hid hI
  have HMM := Lib.hid hM
  have HBW := Lib.hid hb
  have HL := Lib.hid hl
  have HIDS := Lib.hid hids
  have HT := Lib.hid hT
  have HLM := Lib.hid hl.2.1
  clear hI hM hb hl hids hT
  go_enter Try.func25, Try.ntmps25
  go_wp2_with ((with_reducible refine gate_dst (N := 2) rfl ?_); refine box_event rfl (N := 2) rfl (cs := #[.pointer (some ⟨g, 0, none⟩)]) (t := 30) ?hr ?_; (case hr => first | (go_simp; done) | (go_simp; rfl)); intro g2 hg2 X hbox hbX; have HX := Lib.hid hbX; have HG2 := Lib.hid hbox; clear hg2 hbox hbX)
  go_loopg [6, 10] l.length (fun gn v6 v10 wr => ∃ (i : Nat) (h2 : Hp), v10 = .int .i64 (i : Int) ∧ Aside0 (gn = l.length - i) ∧ Aside0 (i ≤ l.length) ∧ Aside0 (HM wr gp w0.heap.size (T + Hv.serW (l.take i)) h2) ∧ Aside0 (cont h2 = (l.take i).foldl (add1 b.need) (cont hm)) ∧ Aside0 (Bt.Is wr w0.heap.size g gm gp vO vL { b with pts := pmOf h2 }) ∧ Aside0 (Below w0.heap.size w0 wr) ∧ Aside0 (Kp X wr gp))
  case atStart => exact ⟨0, hm, rfl, ⟨rfl⟩, ⟨Nat.zero_le _⟩, ⟨HMM.out.below HX.out⟩, ⟨rfl⟩, ⟨Is_kp HI.out (Kp.of_below HX.out) (HMM.out.below HX.out).map.pm⟩, ⟨below_then HBW.out HBW.out.size HX.out⟩, ⟨Kp.refl _ _⟩⟩
  case round =>
    obtain ⟨i, h2, rfl, HN, HI2, HM2, HC2, HIS, HB2, HK2⟩ := hrel
    have HGC := Lib.hid (HK2.out.blk HG2.out (fun e => (XM.MapIs.below HI.out.pts HX.out).noCells HG2.out e.symm) (by decide))
    by_cases hi : i < l.length
    · have hi0 : (i : Int) < (l.length : Int) := by omega
      have hwi := wrap_lt i l.length hi HLM.out
      obtain ⟨ad, A1, c1, e1, r0, r1, hle, hC1⟩ := at_T71 HL.out (i : Int) (by omega) hi0
      cases e1
      rw [Int.toNat_natCast] at r0 r1
      obtain ⟨x, hx⟩ : ∃ x, rd_T71 l (i : Int) = x := ⟨_, rfl⟩
      rw [hx] at r0 r1 hle hC1
      have hxl : l[i] = x := by rw [← hx, Hv.rdSer hi]
      have hst := serW_take hi
      rw [hxl] at hst
      have hfo := fold_take hi b.need (cont hm)
      rw [hxl, ← HC2.out] at hfo
      have hle2 := serW_take_le l (i + 1)
      have HIX := Lib.hid (show x.f0.size ≤ maxLen from HIDS.out x (by rw [← hxl]; exact List.getElem_mem hi))
      have HIN := Lib.hid (show ∀ k, k = l.length - i → l.length - (i + 1) < k by intro k hk; omega)
      have q0 : wr.cell? (ad.add (i * 2)) = some (.string x.f0) := pw_cell_below HB2.out r0
      have q1 : wr.cell? ⟨(ad.add (i * 2)).block, (ad.add (i * 2)).off + 1, none⟩ = some (.slice A1 x.f1.length c1) := pw_cell_below HB2.out r1
      have HAL := Lib.hid (below_alloc (Below.refl wr.heap.size wr) (.cells #[.string x.f0, .slice A1 x.f1.length c1] 71))
      have HFO := Lib.hid hfo
      have HLE := Lib.hid hle
      have HCX := Lib.hid hC1
      have HTX := Lib.hid (show T + Hv.serW (l.take i) + x.f1.length ≤ T + Hv.serW (l.take (i + 1)) by omega)
      have HTY := Lib.hid (show T + Hv.serW (l.take i) + x.f1.length ≤ 1000000 by have := HT.out; omega)
      have HC1 := Lib.hid (fun W (hW : Below wr.heap.size wr W) => hold1_calls w0 W g gm gp g2 vO vL { b with pts := pmOf h2 } h2 (T + Hv.serW (l.take i)) (HIS.out.below hW) (HM2.out.below hW) (below_then HB2.out HB2.out.size hW) (blk_below HGC.out hW) x A1 c1 HCX.out HLE.out HIX.out HTY.out)
      clear hx hxl hst hfo hle2 r0 r1 hle hC1
      go_wp2_with fail
      with_reducible refine (HC1.out _ HAL.out).mono ?_
      rintro e w5 ⟨rfl, h5, hM5, hc5, hI5, hB5, hK5⟩
      have HM5 := Lib.hid (hM5.more HTX.out)
      have HC5 := Lib.hid (hc5.trans HFO.out.symm)
      have HI5 := Lib.hid hI5
      have HB5 := Lib.hid hB5
      have HK5 := Lib.hid (HK2.out.then_ ((Kp.of_below HAL.out).then_ hK5))
      clear hM5 hc5 hI5 hB5 hK5 HC1 HCX q0 q1
      go_wp2_with fail
      go_roundg (l.length - (i + 1))
      case measure => exact HIN.out _ HN.out
      case rel => exact ⟨i + 1, h5, by first | rfl | (rw [hwi]; rfl) | (simp [hwi]; done) | (simp [hwi]; omega), ⟨rfl⟩, ⟨hi⟩, ⟨HM5.out⟩, ⟨HC5.out⟩, ⟨HI5.out⟩, ⟨HB5.out⟩, ⟨HK5.out⟩⟩
    · have hge : ¬ (i : Int) < (l.length : Int) := by omega
      have hie : i = l.length := by have := HI2.out; omega
      have hM9 := HM2.out
      have hC9 := HC2.out
      rw [hie, List.take_length] at hM9 hC9
      have HM9 := Lib.hid hM9
      have HC9 := Lib.hid hC9
      clear hM9 hC9 hie
      go_wp2
      go_end0
      exact ⟨rfl, h2, HM9.out, HC9.out, HIS.out, HB2.out, (Kp.of_below HX.out).then_ HK2.out⟩
end Hm
end Go.Proofs.Ytiinmagnpkfbbaa
