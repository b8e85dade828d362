/- BufferApart: whatever script, block and name: the Go function returns true, and its arguments read as before. -/
import Derived.Test.YtmocpglnoehknaaViewLaw
import Derived.Test.YtmocpglnoehknaaTakeNil
import Derived.Test.YtmocpglnoehknaaQHa
import Derived.Deep.Cut
import Derived.Test.YtmocpglnoehknaaRows
import Derived.WalkKit
import Derived.ProofKit
import Derived.OpenShut
import Derived.ShutString
import Derived.ChangeOld
import Derived.Below
import Derived.SizedLaws
import Derived.Lib.SmallJoins
import Derived.Deep.Slices
namespace Go.Proofs.Ytmocpglnoehknaa
set_option linter.unusedVariables false
set_option linter.unusedSimpArgs false
open Go.RowKit Go.Proofs.YtmocpglnoehknaaW.PrintWords Go.Proofs.YtmocpglnoehknaaW.PrintLast Go.Proofs.YtmocpglnoehknaaW.PrintMore Go.Proofs.Ytmocpglnoehknaa.QT Go.Proofs.Ytmocpglnoehknaa.QH
namespace Buf
abbrev Stp := S47
/-- The points that other blocks than blk got at the name. -/
def others (blk : Int) (idn : ByteArray) (l : List Stp) : List Pt := (l.filter (fun s => !(s.f1 == blk) && decide (s.f3 = idn))).map (·.f4)
/-- The entries of other blocks than blk. -/
def rest (blk : Int) (m : Mp) : Mp := m.filter (fun e => !(e.1.blk == blk))
theorem mem_ptsO {blk : Int} {idn : ByteArray} {m : Mp} {p : Pt} : p ∈ pts idn (rest blk m) ↔ ∃ e ∈ m, e.1.blk ≠ blk ∧ e.1.idn = idn ∧ e.2.p = p := by
  rw [mem_pts]
  unfold rest
  constructor
  · rintro ⟨e, he, h1, h2⟩
    obtain ⟨h3, h4⟩ := List.mem_filter.1 he
    exact ⟨e, h3, by simpa using h4, h1, h2⟩
  · rintro ⟨e, he, h3, h1, h2⟩
    exact ⟨e, List.mem_filter.2 ⟨he, by simpa using h3⟩, h1, h2⟩
structure AInv (blk : Int) (idn : ByteArray) (m : Mp) (l : List Pt) (ver : Int) : Prop where
  dom : Vw.Dom l (pts idn (rest blk m))
  key : ∀ e ∈ m, e.1.tm = e.2.p.f0
  ver : ∀ e ∈ m, e.2.ver ≤ ver
theorem AInv.nil (blk : Int) (idn : ByteArray) : AInv blk idn [] [] 0 := ⟨⟨by simp [pts, rest], by simp⟩, by simp, by simp⟩
theorem AInv.write {blk : Int} {idn : ByteArray} {m : Mp} {l : List Pt} {ver : Int} (h : AInv blk idn m l ver) (hn : (XM.keys m).Nodup) (b : Int) (i : ByteArray) (p : Pt) :
    AInv blk idn (wr m b i p (ver + 1)) (l ++ if b ≠ blk ∧ i = idn then [p] else []) (ver + 1) := by
  have putk : (∀ e ∈ XM.aput m ⟨b, i, p.f0⟩ ⟨p, ver + 1⟩, e.1.tm = e.2.p.f0) ∧ ∀ e ∈ XM.aput m ⟨b, i, p.f0⟩ ⟨p, ver + 1⟩, e.2.ver ≤ ver + 1 := by
    refine ⟨fun e he => ?_, fun e he => ?_⟩
    · rcases XM.mem_aput he with he | rfl
      · exact h.key e he
      · rfl
    · rcases XM.mem_aput he with he | rfl
      · have := h.ver e he; omega
      · exact Int.le_refl _
  have put : (∀ hd, XM.aget m ⟨b, i, p.f0⟩ = some hd → Vw.Ge p hd.p) → AInv blk idn (XM.aput m ⟨b, i, p.f0⟩ ⟨p, ver + 1⟩) (l ++ if b ≠ blk ∧ i = idn then [p] else []) (ver + 1) := by
    intro hw
    refine ⟨⟨fun q hq => ?_, fun q hq => ?_⟩, putk.1, putk.2⟩
    · obtain ⟨e, he, h0, h1, rfl⟩ := mem_ptsO.1 hq
      rcases XM.mem_aput he with he | rfl
      · exact List.mem_append_left _ (h.dom.1 _ (mem_ptsO.2 ⟨e, he, h0, h1, rfl⟩))
      · refine List.mem_append_right _ ?_
        rw [if_pos ⟨h0, h1⟩]
        simp
    · rcases List.mem_append.1 hq with hq | hq
      · obtain ⟨r, hr, h1, h2⟩ := h.dom.2 q hq
        obtain ⟨e, he, h0, h3, rfl⟩ := mem_ptsO.1 hr
        by_cases ha : e.1 = ⟨b, i, p.f0⟩
        · have hg := XM.aget_mem hn he
          rw [ha] at hg
          have hge := hw _ hg
          have ht : e.2.p.f0 = p.f0 := by rw [← h.key e he, ha]
          rw [ha] at h0 h3
          exact ⟨p, mem_ptsO.2 ⟨_, mem_aput_self _ _ _, h0, h3, rfl⟩, ht.symm.trans h1, hge.trans h2⟩
        · exact ⟨e.2.p, mem_ptsO.2 ⟨e, mem_aput_other he ha, h0, h3, rfl⟩, h1, h2⟩
      · split at hq
        · rename_i hc
          have hq := List.mem_singleton.1 hq
          subst hq
          exact ⟨q, mem_ptsO.2 ⟨_, mem_aput_self _ _ _, hc.1, hc.2, rfl⟩, rfl, Vw.Ge.refl _⟩
        · cases hq
  unfold wr
  split
  · rename_i hg
    exact put (fun hd hh => by rw [hg] at hh; cases hh)
  · rename_i hd hg
    split
    · rename_i hw
      refine put (fun hd' hh => ?_)
      rw [hg] at hh
      cases hh
      rcases Vw.Ge.total p hd.p with h1 | h1
      · exact h1
      · exact absurd h1 ((Vw.wins_iff _ _).1 hw)
    · rename_i hw
      have hge : Vw.Ge hd.p p := (Vw.wins_false p hd.p).1 (by simpa using hw)
      have hm := XM.aget_some hg
      refine ⟨⟨fun q hq => List.mem_append_left _ (h.dom.1 q hq), fun q hq => ?_⟩, h.key, fun e he => by have := h.ver e he; omega⟩
      rcases List.mem_append.1 hq with hq | hq
      · exact h.dom.2 q hq
      · split at hq
        · rename_i hc
          have hq := List.mem_singleton.1 hq
          subst hq
          exact ⟨hd.p, mem_ptsO.2 ⟨_, hm, hc.1, hc.2, rfl⟩, (h.key _ hm).symm, hge⟩
        · cases hq
/-- Drop keeps the other blocks' entries. -/
theorem drop_rest {blk : Int} {m : Mp} {ver : Int} (h : ∀ e ∈ m, e.2.ver ≤ ver) : m.filter (keepE blk ver) = rest blk m := by
  unfold rest
  refine List.filter_congr (fun e he => ?_)
  unfold keepE
  rw [decide_eq_true (h e he), Bool.and_true]
theorem rest_rest (blk : Int) (m : Mp) : rest blk (rest blk m) = rest blk m := by
  unfold rest
  rw [List.filter_filter]
  exact List.filter_congr (fun e _ => by simp)
theorem rest_ne {blk : Int} {m : Mp} : ∀ e ∈ rest blk m, e.1.blk ≠ blk := fun e he => by simpa using (List.mem_filter.1 he).2
theorem rest_mem {blk : Int} {m : Mp} : ∀ e ∈ rest blk m, e ∈ m := fun e he => (List.mem_filter.1 he).1
theorem rest_len (blk : Int) (m : Mp) : (rest blk m).length ≤ m.length := List.length_filter_le _ _
/-- heavy answers; where it is false, there are no more than 256 steps. -/
theorem heavy_l (l : List Stp) (hl : l.length ≤ 9223372036854775807) : ∀ (d : Nat) (x i : Int), 0 ≤ i → i ≤ l.length → (l.length : Int) - i = d → ∃ r, Ev (fun k => thermographlaw11_heavy.l0 k l x i) r ∧ (r = false → l.length ≤ 256)
  | 0, x, i, h0, h1, h2 => by
    by_cases h : x > 8192
    · exact ⟨true, Ev.step (f := fun _ => some true) (fun k => by rw [thermographlaw11_heavy.l0, if_neg (by omega), if_pos h]) (Ev.now _), fun h => by cases h⟩
    · exact ⟨decide ((l.length : Int) > 256), Ev.step (f := fun _ => some _) (fun k => by rw [thermographlaw11_heavy.l0, if_neg (by omega), if_neg h]) (Ev.now _), fun h => by have := of_decide_eq_false h; omega⟩
  | d + 1, x, i, h0, h1, h2 => by
    by_cases h : x ≤ 8192
    · obtain ⟨r, hr, hh⟩ := heavy_l l hl d (wrap64 (x + (mn (((rd_T47 l i).f3).size : Int) 1048576))) (i + 1) (by omega) (by omega) (by omega)
      refine ⟨r, Ev.step (fun k => ?_) hr, hh⟩
      rw [thermographlaw11_heavy.l0, if_pos (by omega), if_pos h, if_pos h0]
      have : wrap64 (i + 1) = i + 1 := by unfold wrap64; omega
      rw [this]
    · exact ⟨true, Ev.step (f := fun _ => some true) (fun k => by rw [thermographlaw11_heavy.l0, if_pos (by omega), if_neg h, if_pos (by omega)]) (Ev.now _), fun h => by cases h⟩
theorem heavy_any (w : World) (A : Option Addr) (c : Nat) (l : List Stp) (hC : Kd.C k47 w A l.length l) (hc : l.length ≤ c) (hl : l.length ≤ 9223372036854775807) :
    ∃ r : Bool, (r = false → l.length ≤ 256) ∧ Calls Try.prog 16 #[.slice A l.length c] w fun e w' => e = .returned (.bool r) ∧ Below w.heap.size w w' := by
  obtain ⟨r, hr, hh⟩ := heavy_l l hl l.length (l.length : Int) 0 (Int.le_refl _) (by omega) (by omega)
  have hf : Ev (fun k => thermographlaw11_heavy.f k l) r := Ev.congr (fun k => by unfold thermographlaw11_heavy.f; rfl) hr
  obtain ⟨k, hk⟩ := hf.rounds
  exact ⟨r, hh, thermographlaw11_heavy.calls k A c l r w hC hc hk⟩
theorem others_take {blk : Int} {idn : ByteArray} {l : List Stp} {i : Int} (h0 : 0 ≤ i) (h1 : i < l.length) :
    others blk idn (l.take (i + 1).toNat) = others blk idn (l.take i.toNat) ++ (if (rd_T47 l i).f1 ≠ blk ∧ (rd_T47 l i).f3 = idn then [(rd_T47 l i).f4] else []) := by
  have h : i.toNat < l.length := by omega
  have e : rd_T47 l i = l[i.toNat] := by unfold rd_T47; rw [List.getD_eq_getElem?_getD, List.getElem?_eq_getElem h]; rfl
  have e2 : (i + 1).toNat = i.toNat + 1 := by omega
  rw [e, e2, List.take_succ_eq_append_getElem h]
  unfold others
  rw [List.filter_append, List.map_append]
  congr 1
  by_cases hc : (l[i.toNat]).f1 ≠ blk ∧ (l[i.toNat]).f3 = idn
  · rw [if_pos hc, List.filter_cons, if_pos (by simpa using hc)]; rfl
  · rw [if_neg hc, List.filter_cons, if_neg (by simpa using hc)]; rfl
theorem rd47_mem {l : List Stp} {i : Int} (h0 : 0 ≤ i) (h1 : i < l.length) : rd_T47 l i ∈ l := by
  have h : i.toNat < l.length := by omega
  have e : rd_T47 l i = l[i.toNat] := by unfold rd_T47; rw [List.getD_eq_getElem?_getD, List.getElem?_eq_getElem h]; rfl
  rw [e]
  exact List.getElem_mem h
end Buf
end Go.Proofs.Ytmocpglnoehknaa

/- BufferApart: the walk. -/
namespace Go.Proofs.Ytmocpglnoehknaa
set_option linter.unusedVariables false
set_option linter.unusedSimpArgs false
open Go.RowKit Go.Proofs.YtmocpglnoehknaaW.PrintWords Go.Proofs.YtmocpglnoehknaaW.PrintLast Go.Proofs.YtmocpglnoehknaaW.PrintMore Go.Proofs.Ytmocpglnoehknaa.QT Go.Proofs.Ytmocpglnoehknaa.QH
namespace Buf
theorem others_len (blk : Int) (idn : ByteArray) (l : List Stp) : (others blk idn l).length ≤ l.length := by
  unfold others
  rw [List.length_map]
  exact List.length_filter_le _ _
/-- Drop where nothing is of the block. -/
theorem drop_nothing (w : World) {blk : Int} (g b : Nat) (m : Mp) (ver : Int) (h : Is w g b (rest blk m) ver) (hv : ∀ e ∈ m, e.2.ver ≤ ver) (hm : (rest blk m).length ≤ 1000000000) :
    Calls Try.prog 23 #[.pointer (some ⟨g, 0, none⟩), .int .i64 blk] w fun e w' => e = .returned (.int .i64 0) ∧ Is w' g b (rest blk m) ver ∧ Fr g b w w' := by
  refine (drop_calls w g b (rest blk m) ver h hm blk).mono ?_
  rintro e w' ⟨rfl, h1, h2⟩
  rw [drop_rest (fun e he => hv e (rest_mem e he)), rest_rest] at h1
  rw [drop_rest (fun e he => hv e (rest_mem e he)), rest_rest, Int.sub_self]
  exact ⟨rfl, h1, h2⟩
structure RAp (w wr : World) (g b : Nat) (blk : Int) (idn : ByteArray) (l : List Stp) (i : Int) (m : Mp) (v8 : Value) : Prop where
  i0 : 0 ≤ i
  i1 : i ≤ l.length
  isB : Is wr g b m i
  inv : AInv blk idn m (others blk idn (l.take i.toNat)) i
  len : m.length ≤ i.toNat
  oth : Kd.R k24 24 wr w.heap.size (fun k => k ≠ g ∧ k ≠ b) v8 (others blk idn (l.take i.toNat))
  bel : Below w.heap.size w wr
def Apart_r.T8 : Bool × List (List Nat × List Nat) := (true, [([], []), ([], []), ([], []), ([1, 2], [1, 2]), ([3], [3]), ([4], [4]), ([], []), ([], []), ([6, 7], [6, 7]), ([8], [8]), ([9], [9]), ([], []), ([], []), ([11, 12], [11, 12]), ([13], [13]), ([14], [14]), ([0, 5, 10, 15], [0, 5, 10, 15])])
def Apart_r.B8 : List Nat := [0, 0, 0, 6, 14, 30, 0, 0, 192, 448, 960, 0, 0, 6144, 14336, 30720, 65535]
theorem Apart_r.tab8 : rtab .any (opsOf Try.f6 8) = Apart_r.T8 := by kernel_rfl
theorem Apart_r.bits8 : waitsOk Apart_r.T8.2 Apart_r.B8 = true := by kernel_rfl
def Apart_r.T15 : Bool × List (List Nat × List Nat) := (true, [([], []), ([0], [0]), ([], []), ([], []), ([2, 3], [2, 3]), ([1, 4], [1, 4]), ([5, 1], [5]), ([6], [6]), ([6], [6]), ([7, 8, 6, 6], [6, 7, 8]), ([9, 6], [6, 9]), ([6, 10], [6, 10]), ([11, 9], [11]), ([12], [12]), ([12], [12]), ([14, 12], [12, 14]), ([13, 15, 12], [12, 13, 15]), ([12, 16], [12, 16]), ([17, 12], [17]), ([18], [18]), ([18], [18]), ([18], [18]), ([19, 20, 21, 18, 18], [18, 19, 20, 21]), ([18], [18]), ([23, 22, 18], [18, 23]), ([18], [18]), ([24, 25, 24, 18], [18, 24, 25]), ([22, 26, 26, 18], [18, 22, 26]), ([18, 27], [18, 27]), ([28, 27, 0, 1, 2, 3, 4, 5, 6, 7, 8, 9, 10, 11, 12, 13, 14, 15, 16, 17, 18, 19, 20, 21, 22, 23, 24, 25, 26, 27, 28], [28])])
def Apart_r.B15 : List Nat := [0, 1, 0, 0, 12, 31, 63, 127, 127, 511, 1023, 2047, 4095, 8191, 8191, 24575, 65535, 131071, 262143, 524287, 524287, 524287, 4194303, 524287, 16777215, 524287, 67108863, 134217727, 268435455, 536870911]
theorem Apart_r.tab15 : rtab .any (opsOf Try.f6 15) = Apart_r.T15 := by kernel_rfl
theorem Apart_r.bits15 : waitsOk Apart_r.T15.2 Apart_r.B15 = true := by kernel_rfl
set_option maxHeartbeats 2000000 in
set_option maxRecDepth 100000 in
theorem apart_calls (w : World) (A0 : Option Addr) (c0 : Nat) (l : List Stp) (hC : Kd.C k47 w A0 l.length l) (hc : l.length ≤ c0) (hml : l.length ≤ maxLen) (hwf : ∀ s ∈ l, OkP ⟨s.f1, s.f3, s.f4.f0⟩) (blk : Int) (idn : ByteArray) :
    Calls Try.prog 6 #[.slice A0 l.length c0, .int .i64 blk, .string idn] w fun e w' => e = .returned (.bool true) ∧ Below w.heap.size w w' := by
  obtain ⟨rh, hrh, hH⟩ := heavy_any w A0 c0 l hC hc (by unfold maxLen at hml; omega)
  have HC := Lib.hid hC
  have HH := Lib.hid hH
  have HWF := Lib.hid hwf
  clear hC hH hwf
  go_enter Try.func6, Try.ntmps6
  go_wp2_with fail
  with_reducible refine HH.out.mono ?_
  rintro e w1 ⟨rfl, hB1⟩
  have HB1 := Lib.hid hB1
  clear HH hB1
  cases rh with
  | true =>
    go_wp2
    go_ret
    exact ⟨rfl, HB1.out⟩
  | false =>
    have hlen := hrh rfl
    clear hrh
    by_cases hs : (idn.size : Int) > 4096
    · go_wp2
      go_ret
      exact ⟨rfl, HB1.out⟩
    have hs' : ¬ ((4096 : Int) < idn.size) := hs
    go_wp2_with fail
    with_reducible refine (new_any _).mono ?_
    rintro e w2 ⟨g, b, rfl, hg, hb, hI, hB2⟩
    have hsz1 := HB1.out.size
    have HGB := Lib.hid (show w.heap.size ≤ g ∧ w.heap.size ≤ b from by omega)
    have HI2 := Lib.hid hI
    have HB2 := Lib.hid (below_then HB1.out HB1.out.size hB2)
    clear hg hb hI hB2 HB1 hsz1
    go_wp2_with ((with_reducible refine gate_dst (N := 23) rfl ?_); refine Kd.R_lit k24 (w0 := w) w.heap.size 24 ?hg (N := 23) ?hd (xs := ([] : List S24)) (inner := []) (ok := fun k => k ≠ g ∧ k ≠ b) (okp := fun k => k ≠ g ∧ k ≠ b) ?hr ?hp (fun _ hk => hk) ?hf HB2.out HB2.out.size (by simp) ?_; (case hd => rfl); (case hg => rfl); (case hr => first | (go_simp; done) | (go_simp; rfl)); (case hp => exact (Reps.none _ _)); (case hf => have := HI2.out.lt; exact ⟨by omega, by omega⟩); intro v3 w3 hR3 hB3 hg3 hn3; have HR3 := Lib.hid hR3; have HB3 := Lib.hid hB3; have HG3 := Lib.hid hg3; clear hR3 hB3 hg3 hn3)
    have hI3 := HI2.out.below (below_of_grown_none HG3.out)
    have HI3 := Lib.hid hI3
    clear hI3 HI2 HB2 HG3
    go_loopg [8, 9] l.length (fun gn v8 v9 wr => ∃ (i : Int) (m : Mp), v9 = .int .i64 i ∧ Aside0 ((gn : Int) = l.length - i) ∧ Aside0 (RAp w wr g b blk idn l i m v8))
    case atStart => exact ⟨0, [], rfl, ⟨by omega⟩, ⟨⟨by omega, by omega, HI3.out, AInv.nil _ _, by simp, HR3.out, HB3.out⟩⟩⟩
    case round =>
      clear HI3 HR3 HB3
      obtain ⟨i, m, rfl, HG, HR⟩ := hrel
      have hi0 := HR.out.i0
      by_cases hlt : i < l.length
      · obtain ⟨ad, ead, q0, q1, q2, q3, q4, q5, q6⟩ := at_T47 (Kd.C_below HC.out HR.out.bel) i hi0 hlt
        cases ead
        have HWR := Lib.hid (write_calls wr.drew g b m i HR.out.isB (rd_T47 l i).f1 (rd_T47 l i).f3 (rd_T47 l i).f4 (HWF.out _ (rd47_mem hi0 hlt)) hi0 (by omega) (by have := HR.out.len; unfold maxLen; omega))
        have hi1 : i ≤ 256 := by omega
        go_wp2_with fail
        refine start_ (n := 17) (S := fun w' => w'.cell? ⟨(ad.add (i.toNat * 7)).block, (ad.add (i.toNat * 7)).off + 1, none⟩ = some (.int .i64 (rd_T47 l i).f1) ∧ w'.cell? ⟨(ad.add (i.toNat * 7)).block, (ad.add (i.toNat * 7)).off + 3, none⟩ = some (.string (rd_T47 l i).f3) ∧ w'.cell? ⟨(ad.add (i.toNat * 7)).block, (ad.add (i.toNat * 7)).off + 4, none⟩ = some (.int .i64 (rd_T47 l i).f4.f0) ∧ w'.cell? ⟨(ad.add (i.toNat * 7)).block, (ad.add (i.toNat * 7)).off + 5, none⟩ = some (.int .u64 (rd_T47 l i).f4.f1) ∧ w'.cell? ⟨(ad.add (i.toNat * 7)).block, (ad.add (i.toNat * 7)).off + 6, none⟩ = some (.int .u64 (rd_T47 l i).f4.f2)) (ds := [16]) #[false, false, false, false, false, false, false, false, false, false, false, false, false, false, false, false, false] (by kernel_rfl) rfl rfl ⟨q1, q3, q4, q5, q6⟩ (fun hHeld => ?_)
        refine with_tabW Apart_r.tab8 Apart_r.bits8 (fun HT_ HW_ => ?_)
        refine pure_ (i := 0) (N := some 30) (v := ?_) (a' := ?_) #[true, false, false, false, false, false, false, false, false, false, false, false, false, false, false, false, false] rfl rfl (any_of HT_.out (by kernel_rfl)) (fun _ _ _ h => h) (Or.inl ⟨by rfl, ?_⟩) ?_ ?_
        rotate_left
        · intro w'
          go_simp
          with_reducible rfl
        rotate_left
        · simp only [Act.put, List.setIfInBounds_toArray, List.set_cons_zero, List.set_cons_succ, i64_w, i32_w]
          rfl
        refine pure_ (i := 1) (N := some 31) (v := ?_) (a' := ?_) #[true, true, false, false, false, false, false, false, false, false, false, false, false, false, false, false, false] rfl rfl (any_of HT_.out (by kernel_rfl)) (fun _ _ _ h => h) (Or.inl ⟨by rfl, ?_⟩) ?_ ?_
        rotate_left
        · intro w'
          go_simp
          with_reducible rfl
        rotate_left
        · simp only [Act.put, List.setIfInBounds_toArray, List.set_cons_zero, List.set_cons_succ, i64_w, i32_w]
          rfl
        refine pure_ (i := 2) (N := some 32) (v := ?_) (a' := ?_) #[true, true, true, false, false, false, false, false, false, false, false, false, false, false, false, false, false] rfl rfl (any_of HT_.out (by kernel_rfl)) (fun _ _ _ h => h) (Or.inl ⟨by rfl, ?_⟩) ?_ ?_
        rotate_left
        · intro w'
          go_simp
          with_reducible rfl
        rotate_left
        · simp only [Act.put, List.setIfInBounds_toArray, List.set_cons_zero, List.set_cons_succ, i64_w, i32_w]
          rfl
        refine pure_ (i := 3) (N := some 33) (v := ?_) (a' := ?_) #[true, true, true, true, false, false, false, false, false, false, false, false, false, false, false, false, false] rfl rfl (any_of HT_.out (by kernel_rfl)) (fun _ _ _ h => h) (Or.inl ⟨by rfl, ?_⟩) ?_ ?_
        rotate_left
        · intro w'
          go_simp
          with_reducible rfl
        rotate_left
        · simp only [Act.put, List.setIfInBounds_toArray, List.set_cons_zero, List.set_cons_succ, i64_w, i32_w]
          rfl
        refine pure_ (i := 4) (N := some 34) (v := ?_) (a' := ?_) #[true, true, true, true, true, false, false, false, false, false, false, false, false, false, false, false, false] rfl rfl (any_of HT_.out (by kernel_rfl)) (fun _ _ _ h => h) (Or.inl ⟨by rfl, ?_⟩) ?_ ?_
        rotate_left
        · intro w'
          go_simp
          with_reducible rfl
        rotate_left
        · simp only [Act.put, List.setIfInBounds_toArray, List.set_cons_zero, List.set_cons_succ, i64_w, i32_w]
          rfl
        refine pure_ (i := 6) (N := some 36) (v := ?_) (a' := ?_) #[true, true, true, true, true, false, true, false, false, false, false, false, false, false, false, false, false] rfl rfl (any_of HT_.out (by kernel_rfl)) (fun _ _ _ h => h) (Or.inl ⟨by rfl, ?_⟩) ?_ ?_
        rotate_left
        · intro w'
          go_simp
          with_reducible rfl
        rotate_left
        · simp only [Act.put, List.setIfInBounds_toArray, List.set_cons_zero, List.set_cons_succ, i64_w, i32_w]
          rfl
        refine pure_ (i := 7) (N := some 37) (v := ?_) (a' := ?_) #[true, true, true, true, true, false, true, true, false, false, false, false, false, false, false, false, false] rfl rfl (any_of HT_.out (by kernel_rfl)) (fun _ _ _ h => h) (Or.inl ⟨by rfl, ?_⟩) ?_ ?_
        rotate_left
        · intro w'
          go_simp
          with_reducible rfl
        rotate_left
        · simp only [Act.put, List.setIfInBounds_toArray, List.set_cons_zero, List.set_cons_succ, i64_w, i32_w]
          rfl
        refine pure_ (i := 8) (N := some 38) (v := ?_) (a' := ?_) #[true, true, true, true, true, false, true, true, true, false, false, false, false, false, false, false, false] rfl rfl (any_of HT_.out (by kernel_rfl)) (fun _ _ _ h => h) (Or.inl ⟨by rfl, ?_⟩) ?_ ?_
        rotate_left
        · intro w'
          go_simp
          with_reducible rfl
        rotate_left
        · simp only [Act.put, List.setIfInBounds_toArray, List.set_cons_zero, List.set_cons_succ, i64_w, i32_w]
          rfl
        refine pure_ (i := 9) (N := some 39) (v := ?_) (a' := ?_) #[true, true, true, true, true, false, true, true, true, true, false, false, false, false, false, false, false] rfl rfl (any_of HT_.out (by kernel_rfl)) (fun _ _ _ h => h) (Or.inl ⟨by rfl, ?_⟩) ?_ ?_
        rotate_left
        · intro w'
          go_simp
          with_reducible rfl
        rotate_left
        · simp only [Act.put, List.setIfInBounds_toArray, List.set_cons_zero, List.set_cons_succ, i64_w, i32_w]
          rfl
        refine pure_ (i := 11) (N := some 41) (v := ?_) (a' := ?_) #[true, true, true, true, true, false, true, true, true, true, false, true, false, false, false, false, false] rfl rfl (any_of HT_.out (by kernel_rfl)) (fun _ _ _ h => h) (Or.inl ⟨by rfl, ?_⟩) ?_ ?_
        rotate_left
        · intro w'
          go_simp
          with_reducible rfl
        rotate_left
        · simp only [Act.put, List.setIfInBounds_toArray, List.set_cons_zero, List.set_cons_succ, i64_w, i32_w]
          rfl
        refine pure_ (i := 12) (N := some 42) (v := ?_) (a' := ?_) #[true, true, true, true, true, false, true, true, true, true, false, true, true, false, false, false, false] rfl rfl (any_of HT_.out (by kernel_rfl)) (fun _ _ _ h => h) (Or.inl ⟨by rfl, ?_⟩) ?_ ?_
        rotate_left
        · intro w'
          go_simp
          with_reducible rfl
        rotate_left
        · simp only [Act.put, List.setIfInBounds_toArray, List.set_cons_zero, List.set_cons_succ, i64_w, i32_w]
          rfl
        refine pure_ (i := 13) (N := some 43) (v := ?_) (a' := ?_) #[true, true, true, true, true, false, true, true, true, true, false, true, true, true, false, false, false] rfl rfl (any_of HT_.out (by kernel_rfl)) (fun _ _ _ h => h) (Or.inl ⟨by rfl, ?_⟩) ?_ ?_
        rotate_left
        · intro w'
          go_simp
          with_reducible rfl
        rotate_left
        · simp only [Act.put, List.setIfInBounds_toArray, List.set_cons_zero, List.set_cons_succ, i64_w, i32_w]
          rfl
        refine pure_ (i := 14) (N := some 44) (v := ?_) (a' := ?_) #[true, true, true, true, true, false, true, true, true, true, false, true, true, true, true, false, false] rfl rfl (any_of HT_.out (by kernel_rfl)) (fun _ _ _ h => h) (Or.inl ⟨by rfl, ?_⟩) ?_ ?_
        rotate_left
        · intro w'
          go_simp
          with_reducible rfl
        rotate_left
        · simp only [Act.put, List.setIfInBounds_toArray, List.set_cons_zero, List.set_cons_succ, i64_w, i32_w]
          rfl
        refine take_ (i := 5) (N := some 35) (v := ?_) (a' := ?_) #[true, true, true, true, true, true, true, true, true, true, false, true, true, true, true, false, false] rfl rfl (take_ofW HT_.out HW_.out (by kernel_rfl)) (fun _ _ _ h => h) (Or.inl ⟨by rfl, ?_⟩) hHeld ?_ ?_
        rotate_left
        · rintro w' ⟨s0, s1, s2, s3, s4⟩
          go_simp
          with_reducible rfl
        rotate_left
        · simp only [Act.put, List.setIfInBounds_toArray, List.set_cons_zero, List.set_cons_succ, i64_w, i32_w]
          rfl
        refine take_ (i := 10) (N := some 40) (v := ?_) (a' := ?_) #[true, true, true, true, true, true, true, true, true, true, true, true, true, true, true, false, false] rfl rfl (take_ofW HT_.out HW_.out (by kernel_rfl)) (fun _ _ _ h => h) (Or.inl ⟨by rfl, ?_⟩) hHeld ?_ ?_
        rotate_left
        · rintro w' ⟨s0, s1, s2, s3, s4⟩
          go_simp
          with_reducible rfl
        rotate_left
        · simp only [Act.put, List.setIfInBounds_toArray, List.set_cons_zero, List.set_cons_succ, i64_w, i32_w]
          rfl
        refine take_ (i := 15) (N := some 45) (v := ?_) (a' := ?_) #[true, true, true, true, true, true, true, true, true, true, true, true, true, true, true, true, false] rfl rfl (take_ofW HT_.out HW_.out (by kernel_rfl)) (fun _ _ _ h => h) (Or.inl ⟨by rfl, ?_⟩) hHeld ?_ ?_
        rotate_left
        · rintro w' ⟨s0, s1, s2, s3, s4⟩
          go_simp
          with_reducible rfl
        rotate_left
        · simp only [Act.put, List.setIfInBounds_toArray, List.set_cons_zero, List.set_cons_succ, i64_w, i32_w]
          rfl
        refine last_ (i := 16) (N := some 46) #[true, true, true, true, true, true, true, true, true, true, true, true, true, true, true, true, true] rfl rfl (one_of HT_.out (by kernel_rfl)) (by decide) (fun K hK => ?_)
        refine goes_ Try.func9 (by kernel_rfl) rfl #[.pointer (some ⟨g, 0, none⟩), .int .i64 (rd_T47 l i).f1, .string (rd_T47 l i).f3, .agg #[.int .i64 (rd_T47 l i).f4.f0, .int .u64 (rd_T47 l i).f4.f1, .int .u64 (rd_T47 l i).f4.f2]] (by rfl) rfl rfl (by simp only [List.map_toArray, List.map_cons, List.map_nil]; rfl) ?_
        with_reducible refine (HWR.out).mono ?_
        rintro e w9 ⟨rfl, hI9, hF9⟩
        refine ⟨_, rfl, ?_⟩
        have HI9 := Lib.hid hI9
        have HF9 := Lib.hid hF9
        clear hI9 hF9
        refine hK.out _ _ ?_
        clear hK K
        refine norm_ (a' := ?_) ?_ ?_
        rotate_left
        · show Act.put _ (some 46) _ = _
          simp only [Act.put, List.setIfInBounds_toArray, List.set_cons_zero, List.set_cons_succ, i64_w, i32_w]
          rfl
        refine done_ (done_of HT_.out (by kernel_rfl)) ?_
        have HM9 := Lib.hid (show Below w.heap.size w w9 from Fr.below (below_drew HR.out.bel) HF9.out HR.out.bel.size HGB.out.1 HGB.out.2)
        have hO9 : Kd.R k24 24 w9 w.heap.size (fun k => k ≠ g ∧ k ≠ b) u8 (others blk idn (l.take i.toNat)) := Kd.R_step (Kd.R_drew HR.out.oth) (fun k ho hk => HF9.out.block k hk ho.1 ho.2)
        have HO9 := Lib.hid hO9
        have HI1 := Lib.hid (And.intro (HR.out.inv.write HR.out.isB.2.nodup (rd_T47 l i).f1 (rd_T47 l i).f3 (rd_T47 l i).f4) (And.intro HR.out.len (others_take (blk := blk) (idn := idn) hi0 hlt)))
        have HOL := Lib.hid (show (others blk idn (l.take i.toNat)).length ≤ 256 from Nat.le_trans (others_len _ _ _) (Nat.le_trans (List.length_take_le' _ _) hlen))
        clear q0 q1 q2 q3 q4 q5 q6 HR HF9 hO9 HWR
        obtain ⟨ad', ead, q0, q1, q2, q3, q4, q5, q6⟩ := at_T47 (Kd.C_below HC.out HM9.out) i hi0 hlt
        cases ead
        obtain ⟨x, hx⟩ : ∃ x, rd_T47 l i = x := ⟨_, rfl⟩
        have HX := Lib.hid hx
        rw [hx] at q0 q1 q2 q3 q4 q5 q6 HI9 HI1
        rw [hx]
        clear hx
        by_cases hb : x.f1 = blk
        · have hb1 : (x.f1 != blk) = false := by simpa using hb
          have hnc : ¬ (x.f1 ≠ blk ∧ x.f3 = idn) := fun h => h.1 hb
          rw [if_neg hnc] at HI1
          clear hnc
          go_wp2_with fail
          go_roundg (gk - 1)
          case measure => have := HG.out; omega
          case rel =>
            have hg := HG.out
            obtain ⟨r1, r2, r3⟩ := HI1.out
            rw [List.append_nil] at r1 r3
            refine ⟨i + 1, _, rfl, ⟨by omega⟩, ⟨⟨by omega, by omega, HI9.out, by rw [r3]; exact r1, ?_, by rw [r3]; exact HO9.out, HM9.out⟩⟩⟩
            have := wr_len m x.f1 x.f3 x.f4 (i + 1)
            omega
        · have hb1 : (x.f1 != blk) = true := by simpa using hb
          by_cases hi : x.f3 = idn
          · have hi1 : (x.f3.toList == idn.toList) = true := by rw [hi]; simp
            have hnc : (x.f1 ≠ blk ∧ x.f3 = idn) := ⟨hb, hi⟩
            rw [if_pos hnc] at HI1
            clear hi hnc
            go_wp2_with (at_builtin; refine (Kd.R_append k24 (w0 := w) w.heap.size rfl (.tmp 63) (.tmp 69) 29 24 (.agg #[.int .i64 0, .int .u64 0, .int .u64 0]) 24 rfl Try.underlying29 info24 rfl (by decide) (by omega) u8 (others blk idn (l.take i.toNat)) x.f4 [.int .i64 x.f4.f0, .int .u64 x.f4.f1, .int .u64 x.f4.f2] (fun k => k ≠ g ∧ k ≠ b) (fun _ => False) rfl ?aX ?aP (fun _ hk => hk.elim) ?aF ?aO ?aB ?aS ?aL ?_); (case aX => first | rfl | (go_simp; done) | (simp; done)); (case aP => exact k24_mkM _ _ _ x.f4); (case aF => exact (fun k hk => by have := HI9.out.lt; exact ⟨by omega, by omega⟩)); (case aO => exact HO9.out); (case aB => exact HM9.out); (case aS => exact HM9.out.size); (case aL => have := HOL.out; omega); intro v1 w10 hR2 hB2 hg2 hat2; have HR2 := Lib.hid hR2; have HB2 := Lib.hid hB2; have HG2 := Lib.hid hg2; clear hR2 hB2 hg2 hat2)
            go_roundg (gk - 1)
            case measure => have := HG.out; omega
            case rel =>
              have hg := HG.out
              obtain ⟨r1, r2, r3⟩ := HI1.out
              refine ⟨i + 1, _, rfl, ⟨by omega⟩, ⟨⟨by omega, by omega, ?_, by rw [r3]; exact r1, ?_, by rw [r3]; exact HR2.out, HB2.out⟩⟩⟩
              · have h1 := HI9.out
                exact ⟨blk_grown h1.1 HG2.out (fun e => (HO9.out.1 g e.symm).1 rfl), h1.2.kept HG2.out (fun e => (HO9.out.1 b e.symm).2 rfl)⟩
              · have := wr_len m x.f1 x.f3 x.f4 (i + 1)
                omega
          · have hi1 := bytes_ne hi
            have hnc : ¬ (x.f1 ≠ blk ∧ x.f3 = idn) := fun h => hi h.2
            rw [if_neg hnc] at HI1
            clear hi hnc
            go_wp2_with fail
            go_roundg (gk - 1)
            case measure => have := HG.out; omega
            case rel =>
              have hg := HG.out
              obtain ⟨r1, r2, r3⟩ := HI1.out
              rw [List.append_nil] at r1 r3
              refine ⟨i + 1, _, rfl, ⟨by omega⟩, ⟨⟨by omega, by omega, HI9.out, by rw [r3]; exact r1, ?_, by rw [r3]; exact HO9.out, HM9.out⟩⟩⟩
              have := wr_len m x.f1 x.f3 x.f4 (i + 1)
              omega
      · have hi1 := HR.out.i1
        have he : i = l.length := by omega
        subst he
        have hq0 : ((l.length : Int)).toNat = l.length := Int.toNat_natCast _
        have hra := HR.out
        have h1 := hra.inv
        have h2 := hra.oth
        rw [hq0, List.take_length] at h1 h2
        obtain ⟨A8, c8, rfl⟩ := Kd.R_slice h2
        have HIV := Lib.hid h1
        have HOT := Lib.hid h2
        have HIB := Lib.hid hra.isB
        have HBL := Lib.hid hra.bel
        have hlm : m.length ≤ 256 := by have := hra.len; omega
        have hlr := rest_len blk m
        have HOL := Lib.hid (show (others blk idn l).length ≤ 1099511627776 from by have := others_len blk idn l; omega)
        have HML := Lib.hid (show (rest blk m).length ≤ 1000000000 from by omega)
        have HVW := Lib.hid (show Vw.view (pts idn (rest blk m)) = Vw.view (others blk idn l) from (Vw.view_dom h1.dom).symm)
        have HCL := Lib.hid (show (Vw.cut (Vw.view (others blk idn l)) (-9223372036854775808) 9223372036854775807).length ≤ 1099511627776 from Nat.le_trans (Nat.le_trans (Vw.cut_len _ _ _) (Vw.view_len _)) HOL.out)
        clear h1 h2 hra HR HG hi0 hlt hi1 hq0
        go_wp2_with fail
        with_reducible refine (len_calls _ g b m l.length HIB.out).mono ?_
        rintro e w4 ⟨rfl, rfl⟩
        have HDR := Lib.hid (drop_calls wr g b m l.length HIB.out (by omega) blk)
        go_wp2_with fail
        with_reducible refine HDR.out.mono ?_
        rintro e w5 ⟨rfl, hI5, hF5⟩
        rw [drop_rest HIV.out.ver] at hI5 ⊢
        have HI5 := Lib.hid hI5
        have HOT5 := Lib.hid (show Kd.R k24 24 w5 w.heap.size (fun k => k ≠ g ∧ k ≠ b) (.slice A8 (others blk idn l).length c8) (others blk idn l) from Kd.R_step HOT.out (fun k ho hk => hF5.block k hk ho.1 ho.2))
        have HBL5 := Lib.hid (Fr.below HBL.out hF5 HBL.out.size HGB.out.1 HGB.out.2)
        have HTN := Lib.hid (take_none w5 g b (rest blk m) l.length hI5 blk rest_ne)
        clear hI5 hF5 HIB HDR HOT HBL
        go_wp2_with fail
        with_reducible refine HTN.out.mono ?_
        rintro e w6 ⟨rfl, hB6⟩
        have HI6 := Lib.hid (HI5.out.below hB6)
        have HOT6 := Lib.hid (Kd.R_below HOT5.out hB6)
        have HBL6 := Lib.hid (below_then HBL5.out HBL5.out.size hB6)
        clear hB6 HTN HI5 HOT5 HBL5
        go_wp2_with fail
        obtain ⟨X, hX⟩ : ∃ X : World, X = w6.alloc (.cells #[.int .i64 (-9223372036854775808), .int .i64 9223372036854775807] 32) := ⟨_, rfl⟩
        obtain ⟨gq, hgq⟩ : ∃ gq, gq = w6.heap.size := ⟨_, rfl⟩
        have hx6 : Below w6.heap.size w6 X := by rw [hX]; exact below_alloc (Below.refl _ _) _
        have HI7 := Lib.hid (HI6.out.below hx6)
        have HOT7 := Lib.hid (Kd.R_below HOT6.out hx6)
        have HBL7 := Lib.hid (below_then HBL6.out HBL6.out.size hx6)
        have HBX7 := Lib.hid (show X.heap[gq]? = some (.cells #[.int .i64 (-9223372036854775808), .int .i64 9223372036854775807] 32 (0, 0)) from by rw [hX, hgq]; exact blk_new _ _)
        have hne : gq ≠ g ∧ gq ≠ b := by have := HI6.out.lt; omega
        rw [← hgq, ← hX]
        clear hX hgq hx6 HI6 HOT6 HBL6
        have d0 : X.cell? ⟨gq, 0, none⟩ = some (.int .i64 (-9223372036854775808)) := (blk_cell HBX7.out 0).trans rfl
        have d1 : X.cell? ⟨gq, 1, none⟩ = some (.int .i64 9223372036854775807) := (blk_cell HBX7.out 1).trans rfl
        have HLN := Lib.hid (len_calls X.drew g b (rest blk m) l.length HI7.out)
        have HDR := Lib.hid (drop_nothing X.drew g b m l.length HI7.out HIV.out.ver HML.out)
        have HBX9P := Lib.hid (fun (w' : World) (h : Fr g b X.drew w') => Fr.blk (w := X.drew) h HBX7.out hne.1 hne.2)
        have HOT9P := Lib.hid (fun (w' : World) (h : Fr g b X.drew w') => (show Kd.R k24 24 w' w.heap.size (fun k => k ≠ g ∧ k ≠ b) (.slice A8 (others blk idn l).length c8) (others blk idn l) from Kd.R_step (Kd.R_drew HOT7.out) (fun k ho hk => h.block k hk ho.1 ho.2)))
        have HBL9P := Lib.hid (fun (w' : World) (h : Fr g b X.drew w') => Fr.below (below_drew HBL7.out) h HBL7.out.size HGB.out.1 HGB.out.2)
        have hq : (((rest blk m).length : Int) == wrap64 ((m.length : Int) - ((m.length : Int) - ((rest blk m).length : Int)))) = true := by rw [beq_iff_eq]; unfold wrap64; omega
        clear HI7 HOT7 HBL7 HBX7 hne
        have hlr2 : ((rest blk m).length : Int) ≤ (m.length : Int) := by omega
        refine start_ (n := 30) (S := fun w' => w'.cell? ⟨gq, 0, none⟩ = some (.int .i64 (-9223372036854775808)) ∧ w'.cell? ⟨gq, 1, none⟩ = some (.int .i64 9223372036854775807)) (ds := [26, 27]) #[false, false, false, false, false, false, false, false, false, false, false, false, false, false, false, false, false, false, false, false, false, false, false, false, false, false, false, false, false, false] (by kernel_rfl) rfl rfl ⟨d0, d1⟩ (fun hHeld => ?_)
        refine with_tabW Apart_r.tab15 Apart_r.bits15 (fun HT_ HW_ => ?_)
        refine pure_ (i := 0) (N := some 83) (v := ?_) (a' := ?_) #[true, false, false, false, false, false, false, false, false, false, false, false, false, false, false, false, false, false, false, false, false, false, false, false, false, false, false, false, false, false] rfl rfl (any_of HT_.out (by kernel_rfl)) (fun _ _ _ h => h) (Or.inl ⟨by rfl, ?_⟩) ?_ ?_
        rotate_left
        · intro w'
          go_simp
          with_reducible rfl
        rotate_left
        · simp only [Act.put, List.setIfInBounds_toArray, List.set_cons_zero, List.set_cons_succ, i64_w, i32_w]
          rfl
        refine pure_ (i := 2) (N := some 85) (v := ?_) (a' := ?_) #[true, false, true, false, false, false, false, false, false, false, false, false, false, false, false, false, false, false, false, false, false, false, false, false, false, false, false, false, false, false] rfl rfl (any_of HT_.out (by kernel_rfl)) (fun _ _ _ h => h) (Or.inl ⟨by rfl, ?_⟩) ?_ ?_
        rotate_left
        · intro w'
          go_simp
          with_reducible rfl
        rotate_left
        · simp only [Act.put, List.setIfInBounds_toArray, List.set_cons_zero, List.set_cons_succ, i64_w, i32_w]
          rfl
        refine pure_ (i := 3) (N := some 86) (v := ?_) (a' := ?_) #[true, false, true, true, false, false, false, false, false, false, false, false, false, false, false, false, false, false, false, false, false, false, false, false, false, false, false, false, false, false] rfl rfl (any_of HT_.out (by kernel_rfl)) (fun _ _ _ h => h) (Or.inl ⟨by rfl, ?_⟩) ?_ ?_
        rotate_left
        · intro w'
          go_simp
          with_reducible rfl
        rotate_left
        · simp only [Act.put, List.setIfInBounds_toArray, List.set_cons_zero, List.set_cons_succ, i64_w, i32_w]
          rfl
        refine pure_ (i := 4) (N := some 87) (v := ?_) (a' := ?_) #[true, false, true, true, true, false, false, false, false, false, false, false, false, false, false, false, false, false, false, false, false, false, false, false, false, false, false, false, false, false] rfl rfl (any_of HT_.out (by kernel_rfl)) (fun _ _ _ h => h) (Or.inl ⟨by rfl, ?_⟩) ?_ ?_
        rotate_left
        · intro w'
          go_simp
          with_reducible rfl
        rotate_left
        · simp only [Act.put, List.setIfInBounds_toArray, List.set_cons_zero, List.set_cons_succ, i64_w, i32_w]
          rfl
        refine one_ (i := 1) (N := some 84) #[true, true, true, true, true, false, false, false, false, false, false, false, false, false, false, false, false, false, false, false, false, false, false, false, false, false, false, false, false, false] rfl rfl (one_of HT_.out (by kernel_rfl)) (by decide) (fun K hK => ?_)
        refine goes_ Try.func10 (by kernel_rfl) rfl #[.pointer (some ⟨g, 0, none⟩)] (by rfl) rfl rfl (by simp only [List.map_toArray, List.map_cons, List.map_nil]; rfl) ?_
        with_reducible refine (HLN.out).mono ?_
        rintro e w' ⟨rfl, rfl⟩
        refine ⟨_, rfl, ?_⟩
        refine hK.out _ _ ⟨d0, d1⟩ (fun hHeld => ?_)
        clear hK K
        refine norm_ (a' := ?_) ?_ ?_
        rotate_left
        · show Act.put _ (some 84) _ = _
          simp only [Act.put, List.setIfInBounds_toArray, List.set_cons_zero, List.set_cons_succ, i64_w, i32_w]
          rfl
        refine pure_ (i := 5) (N := some 88) (v := ?_) (a' := ?_) #[true, true, true, true, true, true, false, false, false, false, false, false, false, false, false, false, false, false, false, false, false, false, false, false, false, false, false, false, false, false] rfl rfl (any_of HT_.out (by kernel_rfl)) (fun _ _ _ h => h) (Or.inl ⟨by rfl, ?_⟩) ?_ ?_
        rotate_left
        · intro w'
          go_simp
          with_reducible rfl
        rotate_left
        · simp only [Act.put, List.setIfInBounds_toArray, List.set_cons_zero, List.set_cons_succ, i64_w, i32_w]
          rfl
        refine pure_ (i := 6) (N := some 89) (v := ?_) (a' := ?_) #[true, true, true, true, true, true, true, false, false, false, false, false, false, false, false, false, false, false, false, false, false, false, false, false, false, false, false, false, false, false] rfl rfl (any_of HT_.out (by kernel_rfl)) (fun _ _ _ h => h) (Or.inl ⟨by rfl, ?_⟩) ?_ ?_
        rotate_left
        · intro w'
          go_simp
          with_reducible rfl
        rotate_left
        · simp only [Act.put, List.setIfInBounds_toArray, List.set_cons_zero, List.set_cons_succ, i64_w, i32_w]
          rfl
        refine pure_ (i := 7) (N := some 90) (v := ?_) (a' := ?_) #[true, true, true, true, true, true, true, true, false, false, false, false, false, false, false, false, false, false, false, false, false, false, false, false, false, false, false, false, false, false] rfl rfl (any_of HT_.out (by kernel_rfl)) (fun _ _ _ h => h) (Or.inl ⟨by rfl, ?_⟩) ?_ ?_
        rotate_left
        · intro w'
          go_simp
          with_reducible rfl
        rotate_left
        · simp only [Act.put, List.setIfInBounds_toArray, List.set_cons_zero, List.set_cons_succ, i64_w, i32_w]
          rfl
        refine pure_ (i := 8) (N := some 91) (v := ?_) (a' := ?_) #[true, true, true, true, true, true, true, true, true, false, false, false, false, false, false, false, false, false, false, false, false, false, false, false, false, false, false, false, false, false] rfl rfl (any_of HT_.out (by kernel_rfl)) (fun _ _ _ h => h) (Or.inl ⟨by rfl, ?_⟩) ?_ ?_
        rotate_left
        · intro w'
          go_simp
          with_reducible rfl
        rotate_left
        · simp only [Act.put, List.setIfInBounds_toArray, List.set_cons_zero, List.set_cons_succ, i64_w, i32_w]
          rfl
        refine one_ (i := 9) (N := some 92) #[true, true, true, true, true, true, true, true, true, true, false, false, false, false, false, false, false, false, false, false, false, false, false, false, false, false, false, false, false, false] rfl rfl (one_of HT_.out (by kernel_rfl)) (by decide) (fun K hK => ?_)
        refine goes_ Try.func23 (by kernel_rfl) rfl #[.pointer (some ⟨g, 0, none⟩), .int .i64 blk] (by rfl) rfl rfl (by simp only [List.map_toArray, List.map_cons, List.map_nil]; rfl) ?_
        with_reducible refine (HDR.out).mono ?_
        rintro e w9 ⟨rfl, hI9, hF9⟩
        refine ⟨_, rfl, ?_⟩
        have HI9 := Lib.hid hI9
        have HBX9 := Lib.hid (HBX9P.out _ hF9)
        have HOT9 := Lib.hid (HOT9P.out _ hF9)
        have HBL9 := Lib.hid (HBL9P.out _ hF9)
        have HRD := Lib.hid (read_calls w9 g b (rest blk m) l.length hI9 idn (-9223372036854775808) 9223372036854775807 HML.out)
        clear hI9 hF9
        refine hK.out _ _ ⟨(blk_cell HBX9.out 0).trans rfl, (blk_cell HBX9.out 1).trans rfl⟩ (fun hHeld => ?_)
        clear hK K
        refine norm_ (a' := ?_) ?_ ?_
        rotate_left
        · show Act.put _ (some 92) _ = _
          simp only [Act.put, List.setIfInBounds_toArray, List.set_cons_zero, List.set_cons_succ, i64_w, i32_w]
          rfl
        refine pure_ (i := 10) (N := some 93) (v := ?_) (a' := ?_) #[true, true, true, true, true, true, true, true, true, true, true, false, false, false, false, false, false, false, false, false, false, false, false, false, false, false, false, false, false, false] rfl rfl (any_of HT_.out (by kernel_rfl)) (fun _ _ _ h => h) (Or.inl ⟨by rfl, ?_⟩) ?_ ?_
        rotate_left
        · intro w'
          go_simp
          with_reducible rfl
        rotate_left
        · simp only [Act.put, List.setIfInBounds_toArray, List.set_cons_zero, List.set_cons_succ, i64_w, i32_w]
          rfl
        refine pure_ (i := 11) (N := some 94) (v := ?_) (a' := ?_) #[true, true, true, true, true, true, true, true, true, true, true, true, false, false, false, false, false, false, false, false, false, false, false, false, false, false, false, false, false, false] rfl rfl (any_of HT_.out (by kernel_rfl)) (fun _ _ _ h => h) (Or.inl ⟨by rfl, ?_⟩) ?_ ?_
        rotate_left
        · intro w'
          go_simp
          with_reducible rfl
        rotate_left
        · simp only [Act.put, List.setIfInBounds_toArray, List.set_cons_zero, List.set_cons_succ, i64_w, i32_w]
          rfl
        refine pure_ (i := 12) (N := some 95) (v := ?_) (a' := ?_) #[true, true, true, true, true, true, true, true, true, true, true, true, true, false, false, false, false, false, false, false, false, false, false, false, false, false, false, false, false, false] rfl rfl (any_of HT_.out (by kernel_rfl)) (fun _ _ _ h => h) (Or.inl ⟨by rfl, ?_⟩) ?_ ?_
        rotate_left
        · intro w'
          go_simp
          with_reducible rfl
        rotate_left
        · simp only [Act.put, List.setIfInBounds_toArray, List.set_cons_zero, List.set_cons_succ, i64_w, i32_w]
          rfl
        refine pure_ (i := 13) (N := some 96) (v := ?_) (a' := ?_) #[true, true, true, true, true, true, true, true, true, true, true, true, true, true, false, false, false, false, false, false, false, false, false, false, false, false, false, false, false, false] rfl rfl (any_of HT_.out (by kernel_rfl)) (fun _ _ _ h => h) (Or.inl ⟨by rfl, ?_⟩) ?_ ?_
        rotate_left
        · intro w'
          go_simp
          with_reducible rfl
        rotate_left
        · simp only [Act.put, List.setIfInBounds_toArray, List.set_cons_zero, List.set_cons_succ, i64_w, i32_w]
          rfl
        refine pure_ (i := 14) (N := some 97) (v := ?_) (a' := ?_) #[true, true, true, true, true, true, true, true, true, true, true, true, true, true, true, false, false, false, false, false, false, false, false, false, false, false, false, false, false, false] rfl rfl (any_of HT_.out (by kernel_rfl)) (fun _ _ _ h => h) (Or.inl ⟨by rfl, ?_⟩) ?_ ?_
        rotate_left
        · intro w'
          go_simp
          with_reducible rfl
        rotate_left
        · simp only [Act.put, List.setIfInBounds_toArray, List.set_cons_zero, List.set_cons_succ, i64_w, i32_w]
          rfl
        refine pure_ (i := 15) (N := some 98) (v := ?_) (a' := ?_) #[true, true, true, true, true, true, true, true, true, true, true, true, true, true, true, true, false, false, false, false, false, false, false, false, false, false, false, false, false, false] rfl rfl (any_of HT_.out (by kernel_rfl)) (fun _ _ _ h => h) (Or.inl ⟨by rfl, ?_⟩) ?_ ?_
        rotate_left
        · intro w'
          go_simp
          with_reducible rfl
        rotate_left
        · simp only [Act.put, List.setIfInBounds_toArray, List.set_cons_zero, List.set_cons_succ, i64_w, i32_w]
          rfl
        refine pure_ (i := 16) (N := some 99) (v := ?_) (a' := ?_) #[true, true, true, true, true, true, true, true, true, true, true, true, true, true, true, true, true, false, false, false, false, false, false, false, false, false, false, false, false, false] rfl rfl (any_of HT_.out (by kernel_rfl)) (fun _ _ _ h => h) (Or.inl ⟨by rfl, ?_⟩) ?_ ?_
        rotate_left
        · intro w'
          go_simp
          with_reducible rfl
        rotate_left
        · simp only [Act.put, List.setIfInBounds_toArray, List.set_cons_zero, List.set_cons_succ, i64_w, i32_w]
          rfl
        refine pure_ (i := 17) (N := some 100) (v := ?_) (a' := ?_) #[true, true, true, true, true, true, true, true, true, true, true, true, true, true, true, true, true, true, false, false, false, false, false, false, false, false, false, false, false, false] rfl rfl (any_of HT_.out (by kernel_rfl)) (fun _ _ _ h => h) (Or.inl ⟨by rfl, ?_⟩) ?_ ?_
        rotate_left
        · intro w'
          go_simp
          with_reducible rfl
        rotate_left
        · simp only [Act.put, List.setIfInBounds_toArray, List.set_cons_zero, List.set_cons_succ, i64_w, i32_w]
          rfl
        refine pure_ (i := 18) (N := some 101) (v := ?_) (a' := ?_) #[true, true, true, true, true, true, true, true, true, true, true, true, true, true, true, true, true, true, true, false, false, false, false, false, false, false, false, false, false, false] rfl rfl (any_of HT_.out (by kernel_rfl)) (fun _ _ _ h => h) (Or.inl ⟨by rfl, ?_⟩) ?_ ?_
        rotate_left
        · intro w'
          go_simp
          with_reducible rfl
        rotate_left
        · simp only [Act.put, List.setIfInBounds_toArray, List.set_cons_zero, List.set_cons_succ, i64_w, i32_w]
          rfl
        refine pure_ (i := 19) (N := some 102) (v := ?_) (a' := ?_) #[true, true, true, true, true, true, true, true, true, true, true, true, true, true, true, true, true, true, true, true, false, false, false, false, false, false, false, false, false, false] rfl rfl (any_of HT_.out (by kernel_rfl)) (fun _ _ _ h => h) (Or.inl ⟨by rfl, ?_⟩) ?_ ?_
        rotate_left
        · intro w'
          go_simp
          with_reducible rfl
        rotate_left
        · simp only [Act.put, List.setIfInBounds_toArray, List.set_cons_zero, List.set_cons_succ, i64_w, i32_w]
          rfl
        refine pure_ (i := 20) (N := some 103) (v := ?_) (a' := ?_) #[true, true, true, true, true, true, true, true, true, true, true, true, true, true, true, true, true, true, true, true, true, false, false, false, false, false, false, false, false, false] rfl rfl (any_of HT_.out (by kernel_rfl)) (fun _ _ _ h => h) (Or.inl ⟨by rfl, ?_⟩) ?_ ?_
        rotate_left
        · intro w'
          go_simp
          with_reducible rfl
        rotate_left
        · simp only [Act.put, List.setIfInBounds_toArray, List.set_cons_zero, List.set_cons_succ, i64_w, i32_w]
          rfl
        refine pure_ (i := 23) (N := some 106) (v := ?_) (a' := ?_) #[true, true, true, true, true, true, true, true, true, true, true, true, true, true, true, true, true, true, true, true, true, false, false, true, false, false, false, false, false, false] rfl rfl (any_of HT_.out (by kernel_rfl)) (fun _ _ _ h => h) (Or.inl ⟨by rfl, ?_⟩) ?_ ?_
        rotate_left
        · intro w'
          go_simp
          with_reducible rfl
        rotate_left
        · simp only [Act.put, List.setIfInBounds_toArray, List.set_cons_zero, List.set_cons_succ, i64_w, i32_w]
          rfl
        refine take_ (i := 21) (N := some 104) (v := ?_) (a' := ?_) #[true, true, true, true, true, true, true, true, true, true, true, true, true, true, true, true, true, true, true, true, true, true, false, true, false, false, false, false, false, false] rfl rfl (take_ofW HT_.out HW_.out (by kernel_rfl)) (fun _ _ _ h => h) (Or.inl ⟨by rfl, ?_⟩) hHeld ?_ ?_
        rotate_left
        · rintro w' ⟨s0, s1⟩
          go_simp
          with_reducible rfl
        rotate_left
        · simp only [Act.put, List.setIfInBounds_toArray, List.set_cons_zero, List.set_cons_succ, i64_w, i32_w]
          rfl
        refine take_ (i := 25) (N := some 108) (v := ?_) (a' := ?_) #[true, true, true, true, true, true, true, true, true, true, true, true, true, true, true, true, true, true, true, true, true, true, false, true, false, true, false, false, false, false] rfl rfl (take_ofW HT_.out HW_.out (by kernel_rfl)) (fun _ _ _ h => h) (Or.inl ⟨by rfl, ?_⟩) hHeld ?_ ?_
        rotate_left
        · rintro w' ⟨s0, s1⟩
          go_simp
          with_reducible rfl
        rotate_left
        · simp only [Act.put, List.setIfInBounds_toArray, List.set_cons_zero, List.set_cons_succ, i64_w, i32_w]
          rfl
        refine one_ (i := 22) (N := some 105) #[true, true, true, true, true, true, true, true, true, true, true, true, true, true, true, true, true, true, true, true, true, true, true, true, false, true, false, false, false, false] rfl rfl (one_of HT_.out (by kernel_rfl)) (by decide) (fun K hK => ?_)
        refine goes_ Try.func11 (by kernel_rfl) rfl #[.pointer (some ⟨g, 0, none⟩), .string idn, .agg #[.int .i64 (-9223372036854775808), .int .i64 9223372036854775807]] (by rfl) rfl rfl (by simp only [List.map_toArray, List.map_cons, List.map_nil]; rfl) ?_
        with_reducible refine (HRD.out).mono ?_
        rintro e w10 ⟨v10, rfl, hR10, hB10⟩
        refine ⟨_, rfl, ?_⟩
        rw [HVW.out] at hR10
        have HR10 := Lib.hid hR10
        have HBX10 := Lib.hid (blk_below HBX9.out hB10)
        have HBL10 := Lib.hid (below_then HBL9.out HBL9.out.size hB10)
        have HVI := Lib.hid (rview_any (Kd.R_reads' (Kd.R_below HOT9.out hB10)).2.2 (Nat.le_trans (Nat.le_of_eq (Kd.R_reads' (Kd.R_below HOT9.out hB10)).1.symm) (Kd.R_reads' (Kd.R_below HOT9.out hB10)).2.1) HOL.out)
        clear hR10 hB10
        refine hK.out _ _ ⟨(blk_cell HBX10.out 0).trans rfl, (blk_cell HBX10.out 1).trans rfl⟩ (fun hHeld => ?_)
        clear hK K
        refine norm_ (a' := ?_) ?_ ?_
        rotate_left
        · show Act.put _ (some 105) _ = _
          simp only [Act.put, List.setIfInBounds_toArray, List.set_cons_zero, List.set_cons_succ, i64_w, i32_w]
          rfl
        refine one_ (i := 24) (N := some 107) #[true, true, true, true, true, true, true, true, true, true, true, true, true, true, true, true, true, true, true, true, true, true, true, true, true, true, false, false, false, false] rfl rfl (one_of HT_.out (by kernel_rfl)) (by decide) (fun K hK => ?_)
        refine goes_ Try.func14 (by kernel_rfl) rfl #[.slice A8 (others blk idn l).length c8] (by rfl) rfl rfl (by simp only [List.map_toArray, List.map_cons, List.map_nil]; rfl) ?_
        with_reducible refine (HVI.out).mono ?_
        rintro e w11 ⟨v11, rfl, hR11, hB11⟩
        refine ⟨_, rfl, ?_⟩
        have HR11 := Lib.hid (Kd.R_below HR10.out hB11)
        have HBX11 := Lib.hid (blk_below HBX10.out hB11)
        have HBL11 := Lib.hid (below_then HBL10.out HBL10.out.size hB11)
        have HCT := Lib.hid (rcut_any hR11 (-9223372036854775808) 9223372036854775807 (Nat.le_trans (Vw.view_len _) HOL.out))
        clear hR11 hB11
        refine hK.out _ _ ⟨(blk_cell HBX11.out 0).trans rfl, (blk_cell HBX11.out 1).trans rfl⟩ (fun hHeld => ?_)
        clear hK K
        refine norm_ (a' := ?_) ?_ ?_
        rotate_left
        · show Act.put _ (some 107) _ = _
          simp only [Act.put, List.setIfInBounds_toArray, List.set_cons_zero, List.set_cons_succ, i64_w, i32_w]
          rfl
        refine last_ (i := 26) (N := some 109) #[true, true, true, true, true, true, true, true, true, true, true, true, true, true, true, true, true, true, true, true, true, true, true, true, true, true, true, false, false, false] rfl rfl (one_of HT_.out (by kernel_rfl)) (by decide) (fun K hK => ?_)
        refine goes_ Try.func13 (by kernel_rfl) rfl #[v11, .agg #[.int .i64 (-9223372036854775808), .int .i64 9223372036854775807]] (by rfl) rfl rfl (by simp only [List.map_toArray, List.map_cons, List.map_nil]; rfl) ?_
        with_reducible refine (HCT.out).mono ?_
        rintro e w12 ⟨v12, rfl, hR12, hB12⟩
        refine ⟨_, rfl, ?_⟩
        have HSM := Lib.hid (same_any (Kd.R_below HR11.out hB12) hR12 HCL.out)
        have HBL12 := Lib.hid (below_then HBL11.out HBL11.out.size hB12)
        clear hR12 hB12
        refine hK.out _ _ ?_
        clear hK K
        refine norm_ (a' := ?_) ?_ ?_
        rotate_left
        · show Act.put _ (some 109) _ = _
          simp only [Act.put, List.setIfInBounds_toArray, List.set_cons_zero, List.set_cons_succ, i64_w, i32_w]
          rfl
        refine last_ (i := 27) (N := some 110) #[true, true, true, true, true, true, true, true, true, true, true, true, true, true, true, true, true, true, true, true, true, true, true, true, true, true, true, true, false, false] rfl rfl (one_of HT_.out (by kernel_rfl)) (by decide) (fun K hK => ?_)
        refine goes_ Try.func15 (by kernel_rfl) rfl #[v10, v12] (by rfl) rfl rfl (by simp only [List.map_toArray, List.map_cons, List.map_nil]; rfl) ?_
        with_reducible refine (HSM.out).mono ?_
        rintro e w13 ⟨rfl, hB13⟩
        refine ⟨_, rfl, ?_⟩
        have HBL13 := Lib.hid (below_then HBL12.out HBL12.out.size hB13)
        clear hB13
        refine hK.out _ _ ?_
        clear hK K
        refine norm_ (a' := ?_) ?_ ?_
        rotate_left
        · show Act.put _ (some 110) _ = _
          simp only [Act.put, List.setIfInBounds_toArray, List.set_cons_zero, List.set_cons_succ, i64_w, i32_w]
          rfl
        refine pure_ (i := 28) (N := some 111) (v := ?_) (a' := ?_) #[true, true, true, true, true, true, true, true, true, true, true, true, true, true, true, true, true, true, true, true, true, true, true, true, true, true, true, true, true, false] rfl rfl (any_of HT_.out (by kernel_rfl)) (fun _ _ _ h => h) (Or.inl ⟨by rfl, ?_⟩) ?_ ?_
        rotate_left
        · intro w'
          go_simp
          with_reducible rfl
        rotate_left
        · simp only [Act.put, List.setIfInBounds_toArray, List.set_cons_zero, List.set_cons_succ, i64_w, i32_w]
          rfl
        refine pure_ (i := 29) (N := some 6) (v := ?_) (a' := ?_) #[true, true, true, true, true, true, true, true, true, true, true, true, true, true, true, true, true, true, true, true, true, true, true, true, true, true, true, true, true, true] rfl rfl (any_of HT_.out (by kernel_rfl)) (fun _ _ _ h => h) (Or.inl ⟨by rfl, ?_⟩) ?_ ?_
        rotate_left
        · intro w'
          go_simp
          with_reducible rfl
        rotate_left
        · simp only [Act.put, List.setIfInBounds_toArray, List.set_cons_zero, List.set_cons_succ, i64_w, i32_w]
          rfl
        refine done_ (done_of HT_.out (by kernel_rfl)) ?_
        go_wp2
        go_ret
        exact ⟨rfl, HBL13.out⟩
end Buf
end Go.Proofs.Ytmocpglnoehknaa
namespace Go.Proofs.Ytmocpglnoehknaa
set_option linter.unusedVariables false
set_option linter.unusedSimpArgs false
open Go.Proofs.Ytmocpglnoehknaa.QH Go.ChangeShapes Go.WideShapes Go.ChangeAt Go.RowKit Go.Joins Go.Deep Go.Proofs.YtmocpglnoehknaaW.PrintWords Go.Proofs.Ytmocpglnoehknaa.QT
open Go.ChangeMaps (open_string shut_string)
namespace ApartRow
theorem laidOut : laidOutB Try.prog = true := by kernel_rfl
theorem own : ownKnob Try.prog.godebug = none := by kernel_rfl
theorem cellsPt : Try.prog.cellsOf 24 = 3 := by kernel_rfl
theorem cellsI : Try.prog.cellsOf 3 = 1 := by kernel_rfl
theorem cellsU : Try.prog.cellsOf 22 = 1 := by kernel_rfl
theorem cellsS : Try.prog.cellsOf 9 = 1 := by kernel_rfl
theorem cellsStep : Try.prog.cellsOf 47 = 7 := by kernel_rfl
section
variable {H : Type} {enc : TypeId × Value → H} {P : Program} {w : World} {base : Nat} {spare : Nat → Bool} {held : Bool}
theorem trod_struct5 {t : TypeId} {f0 f1 f2 f3 f4 : Field} {fuel : Nat} {cs : List Value} {x : DataW H × List MemPlace} (ht : P.underlying t = some (.struct #[f0, f1, f2, f3, f4])) (h : DataW.trod enc P w base spare held fuel t cs = some x) :
    ∃ y0 y1 y2 y3 y4 n, x = (.agg [y0.1, y1.1, y2.1, y3.1, y4.1], y0.2 ++ (y1.2 ++ (y2.2 ++ (y3.2 ++ y4.2)))) ∧ cs.length = P.cellsOf t ∧ DataW.trod enc P w base spare held n f0.type ((cs.drop f0.offset).take (P.cellsOf f0.type)) = some y0 ∧
      DataW.trod enc P w base spare held n f1.type ((cs.drop f1.offset).take (P.cellsOf f1.type)) = some y1 ∧ DataW.trod enc P w base spare held n f2.type ((cs.drop f2.offset).take (P.cellsOf f2.type)) = some y2 ∧
      DataW.trod enc P w base spare held n f3.type ((cs.drop f3.offset).take (P.cellsOf f3.type)) = some y3 ∧ DataW.trod enc P w base spare held n f4.type ((cs.drop f4.offset).take (P.cellsOf f4.type)) = some y4 := by
  obtain ⟨xs, n, _, rfl, hl, hlen, hf⟩ := DataW.trod_struct ht h
  match xs, hlen with
  | [y0, y1, y2, y3, y4], _ => exact ⟨y0, y1, y2, y3, y4, n, by simp, hl, by simpa using hf 0 f0 rfl, by simpa using hf 1 f1 rfl, by simpa using hf 2 f2 rfl, by simpa using hf 3 f3 rfl, by simpa using hf 4 f4 rfl⟩
end
set_option maxRecDepth 100000 in
/-- A slice of Steps, opened. -/
theorem open_steps {H : Type} {enc : TypeId × Value → H} {W : World} {fuel : Nat} {cs : List Value} {x : DataW H × List MemPlace} (h : DataW.trod enc Try.prog W 0 (fun _ => true) true fuel 40 cs = some x) :
    cs = [.slice none 0 0] ∨ ∃ (a : Addr) (cap : Nat) (l : List S47), cs = [.slice (some a) l.length cap] ∧ l.length ≤ cap ∧ l.length ≤ maxLen ∧ Kd.C k47 W (some a) l.length l ∧ ∀ s ∈ l, Buf.OkP ⟨s.f1, s.f3, s.f4.f0⟩ := by
  rcases open_slice Try.underlying40 h with ⟨h0, _⟩ | ⟨a, len, cap, m, n, D, Pl, rfl, hb, hl, hm, hmm, rfl, hx⟩
  · exact .inl h0
  right
  have hlm : len ≤ m := by rw [hmm]; split <;> omega
  have each : ∀ i, i < len → ∃ y : S47, W.cell? (a.add (i * 7)) = some (.int .i64 y.f0) ∧ W.cell? (a.add (i * 7 + 1)) = some (.int .i64 y.f1) ∧ W.cell? (a.add (i * 7 + 2)) = some (.int .i64 y.f2) ∧ W.cell? (a.add (i * 7 + 3)) = some (.string y.f3) ∧ W.cell? (a.add (i * 7 + 4)) = some (.int .i64 y.f4.f0) ∧ W.cell? (a.add (i * 7 + 5)) = some (.int .u64 y.f4.f1) ∧ W.cell? (a.add (i * 7 + 6)) = some (.int .u64 y.f4.f2) ∧ Buf.OkP ⟨y.f1, y.f3, y.f4.f0⟩ := by
    intro i hi
    obtain ⟨cs', h1, h2⟩ := hx i (by omega)
    rw [cellsStep] at h1
    obtain ⟨_, hlen, hcell⟩ := World.cells?_some h1
    obtain ⟨y0, y1, y2, y3, y4, n', hxy, _, g0, g1, g2, g3, g4⟩ := trod_struct5 Try.underlying47 h2
    obtain ⟨v0, v1, v2, v3, v4, v5, v6, rfl⟩ : ∃ v0 v1 v2 v3 v4 v5 v6, cs' = [v0, v1, v2, v3, v4, v5, v6] := by
      match cs', hlen with
      | [v0, v1, v2, v3, v4, v5, v6], _ => exact ⟨v0, v1, v2, v3, v4, v5, v6, rfl⟩
    · dsimp only at g0 g1 g2 g3 g4
      rw [cellsI] at g0 g1 g2
      rw [cellsS] at g3
      rw [cellsPt] at g4
      have g0' : DataW.trod enc Try.prog W 0 (fun _ => true) true n' 3 [v0] = some y0 := g0
      have g1' : DataW.trod enc Try.prog W 0 (fun _ => true) true n' 3 [v1] = some y1 := g1
      have g2' : DataW.trod enc Try.prog W 0 (fun _ => true) true n' 3 [v2] = some y2 := g2
      have g3' : DataW.trod enc Try.prog W 0 (fun _ => true) true n' 9 [v3] = some y3 := g3
      have g4' : DataW.trod enc Try.prog W 0 (fun _ => true) true n' 24 [v4, v5, v6] = some y4 := g4
      obtain ⟨p0, p1, p2, n2, hxy2, _, e0, e1, e2⟩ := trod_struct3 Try.underlying24 g4'
      dsimp only at e0 e1 e2
      rw [cellsI] at e0
      rw [cellsU] at e1 e2
      have e0' : DataW.trod enc Try.prog W 0 (fun _ => true) true n2 3 [v4] = some p0 := e0
      have e1' : DataW.trod enc Try.prog W 0 (fun _ => true) true n2 22 [v5] = some p1 := e1
      have e2' : DataW.trod enc Try.prog W 0 (fun _ => true) true n2 22 [v6] = some p2 := e2
      obtain ⟨b0, c0, _, _⟩ := DataW.trod_int Try.underlying3 g0'
      obtain ⟨b1, c1, _, wf1⟩ := DataW.trod_int Try.underlying3 g1'
      obtain ⟨b2, c2, _, _⟩ := DataW.trod_int Try.underlying3 g2'
      obtain ⟨s3, c3, _, wf3⟩ := DataW.trod_string Try.underlying9 g3'
      obtain ⟨b4, c4, _, wf4⟩ := DataW.trod_int Try.underlying3 e0'
      obtain ⟨b5, c5, _, _⟩ := DataW.trod_int Try.underlying22 e1'
      obtain ⟨b6, c6, _, _⟩ := DataW.trod_int Try.underlying22 e2'
      simp only [List.cons.injEq, and_true] at c0 c1 c2 c3 c4 c5 c6
      subst c0 c1 c2 c3 c4 c5 c6
      have k0 := hcell 0 (by omega)
      have k1 := hcell 1 (by omega)
      have k2 := hcell 2 (by omega)
      have k3 := hcell 3 (by omega)
      have k4 := hcell 4 (by omega)
      have k5 := hcell 5 (by omega)
      have k6 := hcell 6 (by omega)
      rw [Addr.add_add] at k0 k1 k2 k3 k4 k5 k6
      exact ⟨⟨b0, b1, b2, s3, ⟨b4, b5, b6⟩⟩, by simpa using k0, by simpa using k1, by simpa using k2, by simpa using k3, by simpa using k4, by simpa using k5, by simpa using k6, wf1, wf3, wf4⟩
  haveI : Inhabited S47 := ⟨z47⟩
  obtain ⟨Y, hY⟩ := choose_lt each
  refine ⟨a, cap, (List.range len).map Y, by simp, by simpa using hl, by simp only [List.length_map, List.length_range]; exact Nat.le_trans hl hm, ⟨by simp, by simp only [List.length_map, List.length_range]; unfold maxLen at hm; omega, fun hp => ⟨a, rfl, fun j p hj => ?_⟩⟩, fun p hp => ?_⟩
  · have hjl : j < len := by have := (List.getElem?_eq_some_iff.1 hj).1; simpa using this
    have hp : p = Y j := by
      rw [List.getElem?_map, List.getElem?_range hjl] at hj
      exact (Option.some.inj hj).symm
    subst hp
    refine ⟨_, rfl, k47_mk W (Y j), fun i u hu => ?_⟩
    obtain ⟨q0, q1, q2, q3, q4, q5, q6, _⟩ := hY j hjl
    match i, hu with
    | 0, hu => cases hu; exact q0
    | 1, hu => cases hu; exact q1
    | 2, hu => cases hu; exact q2
    | 3, hu => cases hu; exact q3
    | 4, hu => cases hu; exact q4
    | 5, hu => cases hu; exact q5
    | 6, hu => cases hu; exact q6
  · obtain ⟨j, hj, rfl⟩ := List.mem_map.1 hp
    exact (hY j (List.mem_range.1 hj)).2.2.2.2.2.2.2
set_option maxRecDepth 100000 in
theorem lifted (os : Os) (started : os.Started) (H : Type) (enc : TypeId × Value → H) :
    ReturnsInHanded {} Try.checked os 6 .any (Rows.bufferApartSpec.pre6 enc Try.prog Try.f6 Rows.bufferApartRow.domain false) (Rows.bufferApartSpec.post enc Try.prog Try.f6 false true false false) := by
  refine returnsInHanded_of_change_sized (C := Try.checked) own started (by kernel_rfl) Try.func6
    (ChangeSpec.witness6 (enc := enc) (C := Try.checked) false ⟨#[], #[.slice none 0 0, .int .i64 0, .string ⟨#[]⟩], []⟩ 8 (by kernel_rfl) (by kernel_rfl) (by kernel_rfl) (by kernel_rfl)) ?_
  intro W base args ds gs before hval0 hW hcnd hsz0 _
  have hval : ∀ (j : Nat) t v, Try.f6.params[j]? = some t → args[j]? = some v → Value.okWide Try.prog W .any base t v := hval0
  have hW' := hW
  obtain ⟨p, q, hA0, hV, rfl, hfz, hnd⟩ := hW
  have hA : DataW.TrodAll enc Try.prog W 0 (fun _ => true) true Try.f6.params.toList args.toList ds p := hA0
  rw [Try.params6] at hA hval
  obtain ⟨v0, vs0, d0, ds0, p0, q0, hargs, rfl, rfl, h0, r0⟩ := trodAll_cons hA
  obtain ⟨v1, vs1, d1, ds1, p1, q1, rfl, rfl, rfl, h1, r1⟩ := trodAll_cons r0
  obtain ⟨v2, vs2, d2, ds2, p2, q2, rfl, rfl, rfl, h2, r2⟩ := trodAll_cons r1
  obtain ⟨rfl, rfl, rfl⟩ := trodAll_nil r2
  obtain rfl : args = #[v0, v1, v2] := by cases args; simp_all
  obtain ⟨rfl, rfl⟩ := trodVars_none hV
  have k0 := h0
  have k1 := h1
  have k2 := h2
  have lt0 : ∀ x ∈ p0, x.block < W.heap.size := by obtain ⟨m, hm⟩ := k0; exact DataW.trod_lt m _ _ _ hm
  have lt1 : ∀ x ∈ p1, x.block < W.heap.size := by obtain ⟨m, hm⟩ := k1; exact DataW.trod_lt m _ _ _ hm
  have lt2 : ∀ x ∈ p2, x.block < W.heap.size := by obtain ⟨m, hm⟩ := k2; exact DataW.trod_lt m _ _ _ hm
  obtain ⟨a0, len0, cap0, rfl⟩ := okWide_slice Try.underlying40 (hval 0 40 v0 rfl rfl)
  obtain ⟨blk, rfl, rfl, rfl, wblk⟩ := open_int Try.underlying3 (hval 1 3 v1 rfl rfl) h1
  obtain ⟨idn, rfl, rfl, rfl, hidn⟩ := open_string Try.underlying9 (hval 2 9 v2 rfl rfl) h2
  obtain ⟨l, hlen, hcap, hml, hC, hwf⟩ : ∃ l : List S47, len0 = l.length ∧ l.length ≤ cap0 ∧ l.length ≤ maxLen ∧ Kd.C k47 W a0 l.length l ∧ ∀ s ∈ l, Buf.OkP ⟨s.f1, s.f3, s.f4.f0⟩ := by
    obtain ⟨fuel, hf⟩ := h0
    rcases open_steps hf with hcs | ⟨x, c, l, hcs, hl, hml, hC, hwf⟩
    · simp [Value.cells] at hcs
      obtain ⟨rfl, rfl, rfl⟩ := hcs
      exact ⟨[], rfl, Nat.le_refl _, by simp, Kd.C_nil _ _, by simp⟩
    · simp [Value.cells] at hcs
      obtain ⟨rfl, rfl, rfl⟩ := hcs
      exact ⟨l, rfl, hl, hml, hC, hwf⟩
  subst hlen
  clear hA0 hval0 hsz0
  have main := Buf.apart_calls W a0 cap0 l hC hcap hml hwf blk idn
  refine main.mono fun e W' ⟨he, bel⟩ => ?_
  subst he
  exact ⟨_, rfl, _, _, _, [], _, [], hW', trodAll_mk1 (shut_bool Try.underlying4 _), (trodAll_cons_mk (Below.trod laidOut (by kernel_rfl) (of_decide_eq_true (by kernel_rfl)) k0 bel lt0) (trodAll_cons_mk (Below.trod laidOut (by kernel_rfl) (of_decide_eq_true (by kernel_rfl)) k1 bel lt1) (trodAll_cons_mk (Below.trod laidOut (by kernel_rfl) (of_decide_eq_true (by kernel_rfl)) k2 bel lt2) trodAll_mk0))), rfl, bel.frame _, fun h => by cases h⟩
theorem said : Rows.BufferApartSaid :=
  OpenClaim.holds_of_wide 6 Try.f6 rfl rfl rfl rfl rfl rfl rfl ⟨rfl, rfl, rfl, rfl, rfl⟩ rfl rfl rfl rfl rfl (by kernel_rfl) Try.func6 (by kernel_rfl)
    (of_decide_eq_true (by kernel_rfl)) (by unfold Func.isWrapper; first | (rw [if_pos (by decide +kernel)]; kernel_rfl) | (rw [if_neg (by decide +kernel)]; exact ⟨rfl, rfl⟩))
    (fun os started H enc _ => lifted os started H enc)
end ApartRow
/-- BufferApart is true for every input; the input reads as it did. -/
theorem bufferApart_holds : Rows.BufferApartSaid := ApartRow.said
#print axioms bufferApart_holds
end Go.Proofs.Ytmocpglnoehknaa
