/- repair.Plan: who is to be asked for what differs, sorted by place, equals in their order. -/
import Derived.Test.YtcdpcgcfonjnfaaRepSelf
import Derived.Test.YtcdpcgcfonjnfaaRepSortAsk
import Derived.Deep.Light
namespace Go.Proofs.Ytcdpcgcfonjnfaa
set_option linter.unusedVariables false
set_option linter.unusedSimpArgs false
open Go.RowKit Go.Proofs.YtcdpcgcfonjnfaaW.PrintWords Go.Proofs.YtcdpcgcfonjnfaaW.PrintLast Go.Proofs.YtcdpcgcfonjnfaaW.PrintMore Go.Proofs.Ytcdpcgcfonjnfaa.QT Go.Proofs.Ytcdpcgcfonjnfaa.QS Go.Proofs.Ytcdpcgcfonjnfaa.StableLaw
namespace Rp
/-- What differs, in order. -/
def dfo (own l : List Mt) : List Pc := l.foldl (refStep own l) []
theorem dfo_is (own l : List Mt) : IsD own l (dfo own l) := rdiff_is own l
theorem dfo_len (own l : List Mt) : (dfo own l).length ≤ l.length := by
  have h : ∀ (xs : List Mt) (out : List Pc), (xs.foldl (refStep own l) out).length ≤ out.length + xs.length := by
    intro xs
    induction xs with
    | nil => intro out; exact Nat.le_refl _
    | cons x xs ih =>
      intro out
      rw [List.foldl_cons]
      have h1 := ih (refStep own l out x)
      have h2 := refStep_len own l out x
      rw [List.length_cons]
      omega
  have := h l []
  simpa [dfo] using this
def askOf (i : Int) (p : Pc) : Ak := ⟨i, ⟨p.f0, p.f1⟩⟩
/-- What is asked of the first n, unsorted. -/
def rawN (own : List Mt) (L : List (List Mt)) : Nat → List Ak
  | 0 => []
  | n + 1 => rawN own L n ++ (dfo own (rd_L4 L (n : Int))).map (askOf (n : Int))
theorem rawN_len (own : List Mt) (L : List (List Mt)) : ∀ n, n ≤ L.length → (rawN own L n).length ≤ sumL (L.take n)
  | 0, _ => by simp [rawN]
  | n + 1, h => by
    have ih := rawN_len own L n (by omega)
    have h1 := dfo_len own (rd_L4 L (n : Int))
    rw [rdLL (by omega)] at h1
    rw [rawN, List.length_append, List.length_map, rdLL (by omega), List.take_succ_eq_append_getElem (by omega)]
    unfold sumL at ih ⊢
    rw [List.map_append, List.sum_append]
    simp only [List.map_cons, List.map_nil, List.sum_cons, List.sum_nil]
    omega
theorem sumL_take_le (L : List (List Mt)) (i : Nat) : sumL (L.take i) ≤ sumL L := by
  conv => rhs; rw [← List.take_append_drop i L]
  unfold sumL
  rw [List.map_append, List.sum_append]
  omega
theorem sumL_mem {L : List (List Mt)} {l : List Mt} (h : l ∈ L) : l.length ≤ sumL L := by
  unfold sumL
  induction L with
  | nil => cases h
  | cons y L ih =>
    rw [List.map_cons, List.sum_cons]
    rcases List.mem_cons.1 h with e | e
    · rw [e]; omega
    · have := ih e; omega
theorem rawN_take (own : List Mt) (L : List (List Mt)) (n : Nat) (D : List Pc) (hD : D = dfo own (rd_L4 L (n : Int))) : rawN own L n ++ (D.take D.length).map (askOf (n : Int)) = rawN own L (n + 1) := by
  rw [List.take_length, rawN, hD]
theorem map_take_succ {D : List Pc} {j : Nat} (h : j < D.length) (i : Int) (P : List Ak) : P ++ (D.take (j + 1)).map (askOf i) = P ++ (D.take j).map (askOf i) ++ [askOf i D[j]] := by
  rw [List.take_succ_eq_append_getElem h, List.map_append, List.append_assoc]
  rfl
theorem rdPc {D : List Pc} {j : Nat} (h : j < D.length) : rd_T38 D (j : Int) = D[j] := by
  unfold rd_T38
  rw [Int.toNat_natCast, List.getD_eq_getElem?_getD, List.getElem?_eq_getElem h]
  rfl
theorem R38_grown {w w' : World} {base : Nat} {ok : Nat → Prop} {v : Value} {xs : List Pc} {row : Option Nat} (h : Kd.R k38 32 w base ok v xs) (hg : w.grownBy w' row) (hne : ∀ k, v.ownBlock = some k → some k ≠ row) : Kd.R k38 32 w' base ok v xs := by
  have h1 : Kd.R k38 32 w base (fun k => some k ≠ row) v xs := ⟨fun k hk => hne k hk, h.2.imp_ (fun p c hp => by obtain rfl := k38_openM hp; exact k38_mkM _ _ _ p)⟩
  have h2 := Kd.R_grown h1 hg (fun _ hk => hk)
  exact ⟨h.1, h2.2.imp_ (fun p c hp => by obtain rfl := k38_openM hp; exact k38_mkM _ _ _ p)⟩
theorem info37 : (Try.prog.info? 37).map (fun i => (i.zero, i.size, i.bytes)) = some (some (.agg #[.int .i64 0, .string ⟨#[]⟩, .int .i64 0]), 3, 32) := by kernel_rfl
set_option maxHeartbeats 4000000 in
set_option maxRecDepth 100000 in
theorem plan_calls (w : World) (A : Option Addr) (c : Nat) (own : List Mt) (hC : Kd.C k56 w A own.length own) (hok : OkL own) (hn : own.length ≤ 1000000) (A' : Option Addr) (c' : Nat) (L : List (List Mt)) (hL : Kd.C kLL w A' L.length L) (hokL : ∀ l ∈ L, OkL l) (hS : sumL L ≤ 1000000) :
    Calls Try.prog 8 #[.slice A own.length c, .slice A' L.length c'] w fun e w' => ∃ v : Value, e = .returned v ∧ Kd.R k37 37 w' w.heap.size (fun _ => True) v (srtA (rawN own L L.length)) ∧ Below w.heap.size w w' := by
  have HD := Lib.hid (fun (W : World) (hW : Below w.heap.size w W) (A2 : Option Addr) (c2 : Nat) (l : List Mt) (hl : Kd.C k56 W A2 l.length l) (hm : l ∈ L) => diff_calls W A c own (Kd.C_below hC hW) hok hn A2 c2 l hl (hokL l hm) (Nat.le_trans (sumL_mem hm) hS))
  have HL := Lib.hid hL
  have HLM := Lib.hid hL.2.1
  have H0 := Lib.hid (Below.refl w.heap.size w)
  have HRL := Lib.hid (fun n (hn : n ≤ L.length) => show (rawN own L n).length ≤ 1000000 from Nat.le_trans (rawN_len own L n hn) (Nat.le_trans (sumL_take_le L n) hS))
  clear hC hok hn hL hokL hS
  go_enter Try.func8, Try.ntmps8
  go_wp2_with fail
  go_loopg [5, 6, 7, 9, 12] L.length (fun gn v5 v6 v7 v9 v12 wr => ∃ (i : Nat), v12 = .int .i64 (i : Int) ∧ Aside0 (gn = L.length - i) ∧ Aside0 (i ≤ L.length) ∧ Aside0 (Kd.R k37 37 wr w.heap.size (fun _ => True) v5 (rawN own L i)) ∧ Aside0 (Below w.heap.size w wr))
  case atStart => exact ⟨0, rfl, ⟨rfl⟩, ⟨Nat.zero_le _⟩, ⟨Kd.R_nil _ _ _ _ _⟩, ⟨H0.out⟩⟩
  case round =>
    obtain ⟨i, rfl, HN, HI, HR, HB⟩ := hrel
    by_cases hi : i < L.length
    · have hi0 : (i : Int) < (L.length : Int) := by omega
      have hwi := wrap_lt i L.length hi HLM.out
      obtain ⟨ad, A2, c2, e1, r0, hle, hC2⟩ := at_L4 HL.out (i : Int) (by omega) hi0
      cases e1
      rw [Int.toNat_natCast] at r0
      obtain ⟨x, hx⟩ : ∃ x, rd_L4 L (i : Int) = x := ⟨_, rfl⟩
      have HXE := Lib.hid hx
      rw [hx] at r0 hle hC2
      have hxm : x ∈ L := by
        rw [← hx]
        unfold rd_L4
        rw [Int.toNat_natCast, List.getD_eq_getElem?_getD, List.getElem?_eq_getElem hi]
        exact List.getElem_mem hi
      have q0 := pw_cell_below HB.out r0
      have HDX := Lib.hid (HD.out wr HB.out A2 c2 x (Kd.C_below hC2 HB.out) hxm)
      have HIN := Lib.hid (show ∀ k, k = L.length - i → L.length - (i + 1) < k by intro k hk; omega)
      have HRI := Lib.hid (HRL.out (i + 1) hi)
      clear hx hxm r0 hle hC2
      go_wp2_with fail
      with_reducible refine HDX.out.mono ?_
      rintro e w1 ⟨v, D, rfl, hD, hR, hb⟩
      obtain ⟨A1, c1, rfl⟩ := Kd.R_slice hR
      have HDE := Lib.hid (show D = dfo own (rd_L4 L (i : Int)) by rw [HXE.out]; exact hD.unique (dfo_is own x))
      have HDL := Lib.hid (show (rawN own L i).length + D.length ≤ 1000000 by
        have := HRI.out
        rw [rawN, List.length_append, List.length_map, ← HDE.out] at this
        exact this)
      have HR1 := Lib.hid (Kd.R_below HR.out hb)
      have HAP1 := Lib.hid (show ∀ k, u5.ownBlock = some k → (Value.slice A1 D.length c1).ownBlock ≠ some k from fun k hk he => by have h1 := Kd.R_lt HR.out k hk; have h2 := Kd.R_base hR k he; omega)
      have HB1 := Lib.hid (below_then HB.out HB.out.size hb)
      have HRD := Lib.hid hR
      have HDM := Lib.hid (show D.length ≤ 9223372036854775807 from (Kd.R_reads' hR).2.2.2.1)
      clear hD hR hb HDX q0 HRI HR HXE
      go_wp2_with fail
      go_loopg [5, 9, 21] D.length (fun gn s5 s9 s21 wq => ∃ (j : Nat), s21 = .int .i64 (j : Int) ∧ Aside0 (gn = D.length - j) ∧ Aside0 (j ≤ D.length) ∧ Aside0 (Kd.R k37 37 wq w.heap.size (fun _ => True) s5 (rawN own L i ++ (D.take j).map (askOf (i : Int)))) ∧ Aside0 (Kd.R k38 32 wq wr.heap.size (fun _ => True) (.slice A1 D.length c1) D) ∧ Aside0 (∀ k, s5.ownBlock = some k → (Value.slice A1 D.length c1).ownBlock ≠ some k) ∧ Aside0 (Below w.heap.size w wq))
      case atStart => exact ⟨0, rfl, ⟨rfl⟩, ⟨Nat.zero_le _⟩, ⟨by rw [List.take_zero, List.map_nil, List.append_nil]; exact HR1.out⟩, ⟨HRD.out⟩, ⟨HAP1.out⟩, ⟨HB1.out⟩⟩
      case round =>
        clear HR1 HRD HAP1
        obtain ⟨j, rfl, HNJ, HJ, HRJ, HDJ, HAP, HBJ⟩ := hrel
        by_cases hj : j < D.length
        · have hj0 : (j : Int) < (D.length : Int) := by omega
          have hwj := wrap_lt j D.length hj HDM.out
          obtain ⟨ad1, e2, p0, p1⟩ := at_T38 (Kd.R_reads' HDJ.out).2.2 (j : Int) (by omega) hj0
          cases e2
          rw [Int.toNat_natCast] at p0 p1
          obtain ⟨p, hp⟩ : ∃ p, rd_T38 D (j : Int) = p := ⟨_, rfl⟩
          rw [hp] at p0 p1
          have hst := map_take_succ hj (i : Int) (rawN own L i)
          rw [← rdPc hj, hp] at hst
          have HST := Lib.hid hst
          have HJN := Lib.hid (show ∀ k, k = D.length - j → D.length - (j + 1) < k by intro k hk; omega)
          have HLO := Lib.hid (show ((rawN own L i ++ (D.take j).map (askOf (i : Int))).length + 1) * 32 ≤ 140737488355328 by
            rw [List.length_append, List.length_map, List.length_take]
            have := HDL.out
            omega)
          clear hp hst
          have HRX := Lib.hid (Kd.R_alloc HRJ.out (.cells #[.string p.f0, .int .i64 p.f1] 32))
          have HDX := Lib.hid (Kd.R_alloc HDJ.out (.cells #[.string p.f0, .int .i64 p.f1] 32))
          have HBX := Lib.hid (below_alloc HBJ.out (.cells #[.string p.f0, .int .i64 p.f1] 32))
          obtain ⟨P, hP⟩ : ∃ P, rawN own L i ++ (D.take j).map (askOf (i : Int)) = P := ⟨_, rfl⟩
          rw [hP] at HRX HRJ HST HLO
          obtain ⟨A6, c6, rfl⟩ := Kd.R_slice HRJ.out
          clear hP HRJ
          go_wp2_with (at_builtin; go_loud (refine (Kd.R_append k37 (w0 := w) w.heap.size rfl (.tmp 25) (.tmp 29) 29 37 (.agg #[.int .i64 0, .string ⟨#[]⟩, .int .i64 0]) 32 rfl Try.underlying29 info37 rfl (by decide) (by omega) (.slice A6 P.length c6) P (askOf (i : Int) p) [.int .i64 (i : Int), .string p.f0, .int .i64 p.f1] (fun _ => True) (fun _ => False) rfl ?aX ?aP (fun _ hk => hk.elim) ?aF ?aO ?aB ?aS ?aL ?_)); go_loud (case aX => first | rfl | (go_simp; done) | (simp; done)); go_loud (case aP => exact k37_mkM _ _ _ (askOf (i : Int) p)); go_loud (case aF => exact (fun _ _ => trivial)); go_loud (case aO => exact HRX.out); go_loud (case aB => exact HBX.out); go_loud (case aS => exact HBX.out.size); go_loud (case aL => exact HLO.out); intro v5 w5 hR5 hB5 hg5 hat5; have HR5 := Lib.hid hR5; have HB5 := Lib.hid hB5; go_loud (have HAT := Lib.hid (show ∀ k, v5.ownBlock = some k → (Value.slice (some ad1) D.length c1).ownBlock ≠ some k from by { intro k hk he; rcases hat5 with h1 | ⟨b, h1, h2⟩; { exact HAP.out k (h1.symm.trans hk) he }; { have h3 := Kd.R_lt HDX.out k he; rw [h1] at hk; cases hk; omega } })); go_loud (have HD5 := Lib.hid (R38_grown HDX.out hg5 (fun k hk he => HAP.out k he.symm hk))); clear hR5 hB5 hg5 hat5)
          go_roundg (D.length - (j + 1))
          case measure => go_light; exact HJN.out _ HNJ.out
          case rel => exact ⟨j + 1, by first | rfl | (rw [hwj]; rfl) | (simp [hwj]; done) | (simp [hwj]; omega), ⟨rfl⟩, ⟨hj⟩, ⟨by rw [HST.out]; exact HR5.out⟩, ⟨HD5.out⟩, ⟨HAT.out⟩, ⟨HB5.out⟩⟩
        · have hge : ¬ (j : Int) < (D.length : Int) := by omega
          have hje : j = D.length := by have := HJ.out; omega
          have HRZ := Lib.hid (show Kd.R k37 37 wr w.heap.size (fun _ => True) u5 (rawN own L (i + 1)) by
            have := HRJ.out
            rw [hje, rawN_take own L i D HDE.out] at this
            exact this)
          clear hje HRJ
          go_wp2_with fail
          go_roundg (L.length - (i + 1))
          case measure => go_light; exact HIN.out _ HN.out
          case rel => exact ⟨i + 1, by first | rfl | (rw [hwi]; rfl) | (simp [hwi]; done) | (simp [hwi]; omega), ⟨rfl⟩, ⟨hi⟩, ⟨HRZ.out⟩, ⟨HBJ.out⟩⟩
    · have hge : ¬ (i : Int) < (L.length : Int) := by omega
      have hie : i = L.length := by have := HI.out; omega
      have HRE := Lib.hid (show Kd.R k37 37 wr w.heap.size (fun _ => True) u5 (rawN own L L.length) by rw [← hie]; exact HR.out)
      obtain ⟨K, hK⟩ := (sort_evA (rawN own L L.length) (Nat.le_trans (HRL.out L.length (Nat.le_refl _)) (by omega))).rounds
      have HS := Lib.hid (QS.repair_Ask_20.calls K _ _ _ _ w wr HB.out HRE.out hK)
      clear hK hie HR
      go_wp2_with fail
      with_reducible refine HS.out.mono ?_
      rintro e w4 ⟨rfl, hR4, hB4, hK4⟩
      have HR4 := Lib.hid (Kd.R_mono hR4 (fun _ _ => trivial))
      have HB4 := Lib.hid hB4
      clear hR4 hB4 hK4 HS
      go_wp2
      go_ret
      exact ⟨_, rfl, HR4.out, HB4.out⟩
end Rp
end Go.Proofs.Ytcdpcgcfonjnfaa
