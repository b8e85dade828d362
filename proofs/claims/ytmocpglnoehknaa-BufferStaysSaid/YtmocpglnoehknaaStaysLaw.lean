/- BufferStays: the walk. -/
import Derived.Test.YtmocpglnoehknaaRefC
import Derived.Test.YtmocpglnoehknaaHeavy
import Derived.Deep.Cut
namespace Go.Proofs.Ytmocpglnoehknaa
set_option linter.unusedVariables false
set_option linter.unusedSimpArgs false
open Go.RowKit Go.Proofs.YtmocpglnoehknaaW.PrintWords Go.Proofs.YtmocpglnoehknaaW.PrintLast Go.Proofs.YtmocpglnoehknaaW.PrintMore Go.Proofs.Ytmocpglnoehknaa.QT Go.Proofs.Ytmocpglnoehknaa.QH
open Go.Proofs.Ytmocpglnoehknaa.QS (S79 k79)
open Go.Proofs.Ytmocpglnoehknaa.QR (S54 k54 at_T54 rd_T54)
namespace Both
open Buf (Mp Held Fr Stp OkP)
open Rf (One toMp wrR ent)
structure RS (w wr : World) (g b gr : Nat) (blk : Int) (n : Nat) (v0 i : Int) (m : Mp) (L : List One) : Prop where
  i0 : 0 ≤ i
  i1 : i ≤ n
  two : Two wr g b gr m L (v0 + i)
  len : (m.length : Int) ≤ v0 + i
  blks : ∀ o ∈ L, o.f0 = blk
  bel : Below w.heap.size w wr
theorem RS.next {w wr w1 w2 : World} {g b gr : Nat} {blk : Int} {n : Nat} {v0 i : Int} {m : Mp} {L : List One} (h : RS w wr g b gr blk n v0 i m L) (hi : i < n) (idn : ByteArray) (p : S24) (hk : idn.size ≤ maxLen)
    (h1 : Buf.Is w1 g b (Buf.wr m blk idn p (v0 + i + 1)) (v0 + i + 1)) (h2 : Rf.Is w1 gr L (v0 + i)) (h3 : Rf.Is w2 gr (wrR blk idn p (v0 + i + 1) L) (v0 + i + 1)) (f : Fr gr gr w1 w2) (hb : Below w.heap.size w w2) :
    RS w w2 g b gr blk n v0 (i + 1) (Buf.wr m blk idn p (v0 + i + 1)) (wrR blk idn p (v0 + i + 1) L) := by
  have e : v0 + (i + 1) = v0 + i + 1 := by omega
  refine ⟨by have := h.i0; omega, by omega, ?_, ?_, ?_, hb⟩
  · rw [e]; exact h.two.wrote blk idn p hk h1 h2 h3 f
  · rw [e]; have h4 := Buf.wr_len m blk idn p (v0 + i + 1); have := h.len; omega
  · intro o ho
    rcases wrR_mem ho with h | h
    · exact RS.blks ‹_› o h
    · rw [h]
def Stays_r.T8 : Bool × List (List Nat × List Nat) := (true, [([], []), ([], []), ([], []), ([], []), ([2, 3], [2, 3]), ([4], [4]), ([5], [5]), ([], []), ([], []), ([7, 8], [7, 8]), ([9], [9]), ([10], [10]), ([0, 1, 6, 11], [0, 1, 6, 11])])
def Stays_r.B8 : List Nat := [0, 0, 0, 0, 12, 28, 60, 0, 0, 384, 896, 1920, 4095]
theorem Stays_r.tab8 : rtab .any (opsOf Try.f5 8) = Stays_r.T8 := by kernel_rfl
theorem Stays_r.bits8 : waitsOk Stays_r.T8.2 Stays_r.B8 = true := by kernel_rfl
def Stays_r.T9 : Bool × List (List Nat × List Nat) := (true, [([], []), ([], []), ([], []), ([], []), ([2, 3], [2, 3]), ([4], [4]), ([5], [5]), ([], []), ([], []), ([7, 8], [7, 8]), ([9], [9]), ([10], [10]), ([0, 1, 6, 11], [0, 1, 6, 11])])
def Stays_r.B9 : List Nat := [0, 0, 0, 0, 12, 28, 60, 0, 0, 384, 896, 1920, 4095]
theorem Stays_r.tab9 : rtab .any (opsOf Try.f5 9) = Stays_r.T9 := by kernel_rfl
theorem Stays_r.bits9 : waitsOk Stays_r.T9.2 Stays_r.B9 = true := by kernel_rfl
def Stays_r.T17 : Bool × List (List Nat × List Nat) := (true, [([], []), ([], []), ([], []), ([], []), ([2, 3], [2, 3]), ([4], [4]), ([5], [5]), ([], []), ([], []), ([7, 8], [7, 8]), ([9], [9]), ([10], [10]), ([0, 1, 6, 11], [0, 1, 6, 11])])
def Stays_r.B17 : List Nat := [0, 0, 0, 0, 12, 28, 60, 0, 0, 384, 896, 1920, 4095]
theorem Stays_r.tab17 : rtab .any (opsOf Try.f5 17) = Stays_r.T17 := by kernel_rfl
theorem Stays_r.bits17 : waitsOk Stays_r.T17.2 Stays_r.B17 = true := by kernel_rfl
def Stays_r.T18 : Bool × List (List Nat × List Nat) := (true, [([], []), ([], []), ([], []), ([], []), ([2, 3], [2, 3]), ([4], [4]), ([5], [5]), ([], []), ([], []), ([7, 8], [7, 8]), ([9], [9]), ([10], [10]), ([0, 1, 6, 11], [0, 1, 6, 11])])
def Stays_r.B18 : List Nat := [0, 0, 0, 0, 12, 28, 60, 0, 0, 384, 896, 1920, 4095]
theorem Stays_r.tab18 : rtab .any (opsOf Try.f5 18) = Stays_r.T18 := by kernel_rfl
theorem Stays_r.bits18 : waitsOk Stays_r.T18.2 Stays_r.B18 = true := by kernel_rfl
def Stays_r.T28 : Bool × List (List Nat × List Nat) := (true, [([], []), ([], []), ([0, 1], [0, 1]), ([2, 2], [2]), ([3], [3]), ([4, 3, 3], [3, 4]), ([3], [3]), ([6, 3], [3, 6]), ([7, 3], [3, 7]), ([8, 3], [3, 8]), ([9, 3], [3, 9]), ([5, 10, 3], [3, 5, 10]), ([3, 11], [3, 11]), ([12, 5, 0, 1, 2, 3, 4, 5, 6, 7, 8, 9, 10, 11, 12], [12])])
def Stays_r.B28 : List Nat := [0, 0, 3, 7, 15, 31, 15, 79, 207, 463, 975, 2047, 4095, 8191]
theorem Stays_r.tab28 : rtab .any (opsOf Try.f5 28) = Stays_r.T28 := by kernel_rfl
theorem Stays_r.bits28 : waitsOk Stays_r.T28.2 Stays_r.B28 = true := by kernel_rfl
set_option maxHeartbeats 4000000 in
set_option maxRecDepth 100000 in
theorem stays_calls (w : World) (A0 : Option Addr) (c0 : Nat) (la : List Stp) (hC : Kd.C k47 w A0 la.length la) (hc : la.length ≤ c0) (hml : la.length ≤ maxLen) (hwf : ∀ s ∈ la, OkP ⟨s.f1, s.f3, s.f4.f0⟩)
    (A1 : Option Addr) (c1 : Nat) (lb : List Stp) (hC1 : Kd.C k47 w A1 lb.length lb) (hc1 : lb.length ≤ c1) (hml1 : lb.length ≤ maxLen) (hwf1 : ∀ s ∈ lb, OkP ⟨s.f1, s.f3, s.f4.f0⟩) (blk : Int) (hblk : (Lit.int .i64 blk).wf = true) :
    Calls Try.prog 5 #[.slice A0 la.length c0, .slice A1 lb.length c1, .int .i64 blk] w fun e w' => e = .returned (.bool true) ∧ Below w.heap.size w w' := by
  obtain ⟨rh, hrh, hH⟩ := Buf.heavy_any w A0 c0 la hC hc (by unfold maxLen at hml; omega)
  have hH1 : ∀ W : World, Below w.heap.size w W → ∃ r : Bool, (r = false → lb.length ≤ 256) ∧ Calls Try.prog 16 #[.slice A1 lb.length c1] W fun e w' => e = .returned (.bool r) ∧ Below W.heap.size W w' := fun W hW => Buf.heavy_any W A1 c1 lb (Kd.C_below hC1 hW) hc1 (by unfold maxLen at hml1; omega)
  have HC := Lib.hid hC
  have HC1 := Lib.hid hC1
  have HH := Lib.hid hH
  have HH1 := Lib.hid hH1
  have HWF := Lib.hid hwf
  have HWF1 := Lib.hid hwf1
  have HBK := Lib.hid hblk
  clear hC hC1 hH hH1 hwf hwf1 hblk hml hml1
  go_enter Try.func5, Try.ntmps5
  go_wp2_with fail
  with_reducible refine HH.out.mono ?_
  rintro e w1 ⟨rfl, hB1⟩
  have HB1 := Lib.hid hB1
  clear HH hB1
  cases rh with
  | true =>
    go_wp2
    go_ret
    exact ⟨rfl, HB1.out⟩
  | false =>
    have hla := hrh rfl
    clear hrh
    obtain ⟨rh1, hrh1, hH⟩ := HH1.out w1 HB1.out
    have HH := Lib.hid hH
    clear hH HH1
    go_wp2_with fail
    with_reducible refine HH.out.mono ?_
    rintro e w2 ⟨rfl, hB2⟩
    have HB2 := Lib.hid (below_then HB1.out HB1.out.size hB2)
    clear HH hB2 HB1
    cases rh1 with
    | true =>
      go_wp2
      go_ret
      exact ⟨rfl, HB2.out⟩
    | false =>
      have hlb := hrh1 rfl
      clear hrh1
      go_wp2_with fail
      with_reducible refine (Buf.new_any _).mono ?_
      rintro e w3 ⟨g, b, rfl, hg, hb, hI, hB3⟩
      have hsz2 := HB2.out.size
      have HGB := Lib.hid (show w.heap.size ≤ g ∧ w.heap.size ≤ b from by omega)
      have HI3 := Lib.hid hI
      have HB3 := Lib.hid (below_then HB2.out HB2.out.size hB3)
      clear hg hb hI hB3 HB2 hsz2
      go_wp2_with ((with_reducible refine gate_dst (N := 28) rfl ?_); refine box_event rfl (N := 28) rfl (cs := #[.slice none 0 0, .int .i64 0]) (t := 45) ?hr ?_; (case hr => first | (go_simp; done) | (go_simp; rfl)); intro gr hgr w4 hbox hb4; have HI4 := Lib.hid (HI3.out.below hb4); have HB4 := Lib.hid (And.intro hgr (And.intro hbox hb4)); clear hgr hbox hb4)
      have hbel4 := below_then HB3.out HB3.out.size HB4.out.2.2
      have HBEL4 := Lib.hid hbel4
      have HRI4 := Lib.hid (show Rf.Is w4 gr [] 0 from ⟨_, HB4.out.2.1, Kd.R_nil _ _ _ _ _⟩)
      have HGR := Lib.hid (show w.heap.size ≤ gr from by have h1 := HB4.out.1; have h2 := HB3.out.size; omega)
      have HS0 := Lib.hid (show RS w w4 g b gr blk la.length 0 0 [] [] from ⟨Int.le_refl _, by omega, ⟨HI4.out, HRI4.out, List.Perm.refl _, by simp, by simp⟩, by simp, by simp, HBEL4.out⟩)
      clear hbel4 HI3 HB3 HI4 HB4 HBEL4 HRI4
      go_loopg [9] la.length (fun gn v9 wr => ∃ (i : Int) (m : Mp) (L : List One), v9 = .int .i64 i ∧ Aside0 ((gn : Int) = la.length - i) ∧ Aside0 (RS w wr g b gr blk la.length 0 i m L))
      case atStart => exact ⟨0, [], [], rfl, ⟨by omega⟩, ⟨HS0.out⟩⟩
      case round =>
        clear HS0
        obtain ⟨i, m, L, rfl, HG, HR⟩ := hrel
        have hi0 := HR.out.i0
        by_cases hlt : i < la.length
        · obtain ⟨ad, ead, q0, q1, q2, q3, q4, q5, q6⟩ := at_T47 (Kd.C_below HC.out HR.out.bel) i hi0 hlt
          cases ead
          obtain ⟨x, hx⟩ : ∃ x, rd_T47 la i = x := ⟨_, rfl⟩
          have hxm : x ∈ la := by rw [← hx]; exact Buf.rd47_mem hi0 hlt
          rw [hx] at q0 q1 q2 q3 q4 q5 q6
          have hok := HWF.out x hxm
          have HOK := Lib.hid (And.intro hok.2.1 hok.2.2)
          have HX := Lib.hid hx
          have hi1 : i ≤ 256 := by omega
          have hwr5 : wrap64 (i + 1) = i + 1 := by unfold wrap64; omega
          have HWR := Lib.hid (Buf.write_calls wr.drew g b m (0 + i) HR.out.two.bi blk x.f3 x.f4 ⟨HBK.out, HOK.out.1, HOK.out.2⟩ (by omega) (by omega) (by have := HR.out.len; unfold maxLen; omega))
          clear hx hxm hok
          go_wp2_with fail
          refine start_ (n := 13) (S := fun w' => w'.cell? ⟨(ad.add (i.toNat * 7)).block, (ad.add (i.toNat * 7)).off + 3, none⟩ = some (.string x.f3) ∧ w'.cell? ⟨(ad.add (i.toNat * 7)).block, (ad.add (i.toNat * 7)).off + 4, none⟩ = some (.int .i64 x.f4.f0) ∧ w'.cell? ⟨(ad.add (i.toNat * 7)).block, (ad.add (i.toNat * 7)).off + 5, none⟩ = some (.int .u64 x.f4.f1) ∧ w'.cell? ⟨(ad.add (i.toNat * 7)).block, (ad.add (i.toNat * 7)).off + 6, none⟩ = some (.int .u64 x.f4.f2)) (ds := [12]) #[false, false, false, false, false, false, false, false, false, false, false, false, false] (by kernel_rfl) rfl rfl ⟨q3, q4, q5, q6⟩ (fun hHeld => ?_)
          refine with_tabW Stays_r.tab8 Stays_r.bits8 (fun HT_ HW_ => ?_)
          refine pure_ (i := 0) (N := some 35) (v := ?_) (a' := ?_) #[true, false, false, false, false, false, false, false, false, false, false, false, false] rfl rfl (any_of HT_.out (by kernel_rfl)) (fun _ _ _ h => h) (Or.inl ⟨by rfl, ?_⟩) ?_ ?_
          rotate_left
          · intro w'
            go_simp
            with_reducible rfl
          rotate_left
          · simp only [Act.put, List.setIfInBounds_toArray, List.set_cons_zero, List.set_cons_succ, i64_w, i32_w]
            rfl
          refine pure_ (i := 1) (N := some 36) (v := ?_) (a' := ?_) #[true, true, false, false, false, false, false, false, false, false, false, false, false] rfl rfl (any_of HT_.out (by kernel_rfl)) (fun _ _ _ h => h) (Or.inl ⟨by rfl, ?_⟩) ?_ ?_
          rotate_left
          · intro w'
            go_simp
            with_reducible rfl
          rotate_left
          · simp only [Act.put, List.setIfInBounds_toArray, List.set_cons_zero, List.set_cons_succ, i64_w, i32_w]
            rfl
          refine pure_ (i := 2) (N := some 37) (v := ?_) (a' := ?_) #[true, true, true, false, false, false, false, false, false, false, false, false, false] rfl rfl (any_of HT_.out (by kernel_rfl)) (fun _ _ _ h => h) (Or.inl ⟨by rfl, ?_⟩) ?_ ?_
          rotate_left
          · intro w'
            go_simp
            with_reducible rfl
          rotate_left
          · simp only [Act.put, List.setIfInBounds_toArray, List.set_cons_zero, List.set_cons_succ, i64_w, i32_w]
            rfl
          refine pure_ (i := 3) (N := some 38) (v := ?_) (a' := ?_) #[true, true, true, true, false, false, false, false, false, false, false, false, false] rfl rfl (any_of HT_.out (by kernel_rfl)) (fun _ _ _ h => h) (Or.inl ⟨by rfl, ?_⟩) ?_ ?_
          rotate_left
          · intro w'
            go_simp
            with_reducible rfl
          rotate_left
          · simp only [Act.put, List.setIfInBounds_toArray, List.set_cons_zero, List.set_cons_succ, i64_w, i32_w]
            rfl
          refine pure_ (i := 4) (N := some 39) (v := ?_) (a' := ?_) #[true, true, true, true, true, false, false, false, false, false, false, false, false] rfl rfl (any_of HT_.out (by kernel_rfl)) (fun _ _ _ h => h) (Or.inl ⟨by rfl, ?_⟩) ?_ ?_
          rotate_left
          · intro w'
            go_simp
            with_reducible rfl
          rotate_left
          · simp only [Act.put, List.setIfInBounds_toArray, List.set_cons_zero, List.set_cons_succ, i64_w, i32_w]
            rfl
          refine pure_ (i := 5) (N := some 40) (v := ?_) (a' := ?_) #[true, true, true, true, true, true, false, false, false, false, false, false, false] rfl rfl (any_of HT_.out (by kernel_rfl)) (fun _ _ _ h => h) (Or.inl ⟨by rfl, ?_⟩) ?_ ?_
          rotate_left
          · intro w'
            go_simp
            with_reducible rfl
          rotate_left
          · simp only [Act.put, List.setIfInBounds_toArray, List.set_cons_zero, List.set_cons_succ, i64_w, i32_w]
            rfl
          refine pure_ (i := 7) (N := some 42) (v := ?_) (a' := ?_) #[true, true, true, true, true, true, false, true, false, false, false, false, false] rfl rfl (any_of HT_.out (by kernel_rfl)) (fun _ _ _ h => h) (Or.inl ⟨by rfl, ?_⟩) ?_ ?_
          rotate_left
          · intro w'
            go_simp
            with_reducible rfl
          rotate_left
          · simp only [Act.put, List.setIfInBounds_toArray, List.set_cons_zero, List.set_cons_succ, i64_w, i32_w]
            rfl
          refine pure_ (i := 8) (N := some 43) (v := ?_) (a' := ?_) #[true, true, true, true, true, true, false, true, true, false, false, false, false] rfl rfl (any_of HT_.out (by kernel_rfl)) (fun _ _ _ h => h) (Or.inl ⟨by rfl, ?_⟩) ?_ ?_
          rotate_left
          · intro w'
            go_simp
            with_reducible rfl
          rotate_left
          · simp only [Act.put, List.setIfInBounds_toArray, List.set_cons_zero, List.set_cons_succ, i64_w, i32_w]
            rfl
          refine pure_ (i := 9) (N := some 44) (v := ?_) (a' := ?_) #[true, true, true, true, true, true, false, true, true, true, false, false, false] rfl rfl (any_of HT_.out (by kernel_rfl)) (fun _ _ _ h => h) (Or.inl ⟨by rfl, ?_⟩) ?_ ?_
          rotate_left
          · intro w'
            go_simp
            with_reducible rfl
          rotate_left
          · simp only [Act.put, List.setIfInBounds_toArray, List.set_cons_zero, List.set_cons_succ, i64_w, i32_w]
            rfl
          refine pure_ (i := 10) (N := some 45) (v := ?_) (a' := ?_) #[true, true, true, true, true, true, false, true, true, true, true, false, false] rfl rfl (any_of HT_.out (by kernel_rfl)) (fun _ _ _ h => h) (Or.inl ⟨by rfl, ?_⟩) ?_ ?_
          rotate_left
          · intro w'
            go_simp
            with_reducible rfl
          rotate_left
          · simp only [Act.put, List.setIfInBounds_toArray, List.set_cons_zero, List.set_cons_succ, i64_w, i32_w]
            rfl
          refine take_ (i := 6) (N := some 41) (v := ?_) (a' := ?_) #[true, true, true, true, true, true, true, true, true, true, true, false, false] rfl rfl (take_ofW HT_.out HW_.out (by kernel_rfl)) (fun _ _ _ h => h) (Or.inl ⟨by rfl, ?_⟩) hHeld ?_ ?_
          rotate_left
          · rintro w' ⟨s0, s1, s2, s3⟩
            go_simp
            with_reducible rfl
          rotate_left
          · simp only [Act.put, List.setIfInBounds_toArray, List.set_cons_zero, List.set_cons_succ, i64_w, i32_w]
            rfl
          refine take_ (i := 11) (N := some 46) (v := ?_) (a' := ?_) #[true, true, true, true, true, true, true, true, true, true, true, true, false] rfl rfl (take_ofW HT_.out HW_.out (by kernel_rfl)) (fun _ _ _ h => h) (Or.inl ⟨by rfl, ?_⟩) hHeld ?_ ?_
          rotate_left
          · rintro w' ⟨s0, s1, s2, s3⟩
            go_simp
            with_reducible rfl
          rotate_left
          · simp only [Act.put, List.setIfInBounds_toArray, List.set_cons_zero, List.set_cons_succ, i64_w, i32_w]
            rfl
          refine last_ (i := 12) (N := some 47) #[true, true, true, true, true, true, true, true, true, true, true, true, true] rfl rfl (one_of HT_.out (by kernel_rfl)) (by decide) (fun K hK => ?_)
          refine goes_ Try.func9 (by kernel_rfl) rfl #[.pointer (some ⟨g, 0, none⟩), .int .i64 blk, .string x.f3, .agg #[.int .i64 x.f4.f0, .int .u64 x.f4.f1, .int .u64 x.f4.f2]] (by rfl) rfl rfl (by simp only [List.map_toArray, List.map_cons, List.map_nil]; rfl) ?_
          with_reducible refine (HWR.out).mono ?_
          rintro e w9 ⟨rfl, hI9, hF9⟩
          refine ⟨_, rfl, ?_⟩
          have HI9 := Lib.hid hI9
          have HF9 := Lib.hid hF9
          clear hI9 hF9
          refine hK.out _ _ ?_
          clear hK K
          refine norm_ (a' := ?_) ?_ ?_
          rotate_left
          · show Act.put _ (some 47) _ = _
            simp only [Act.put, List.setIfInBounds_toArray, List.set_cons_zero, List.set_cons_succ, i64_w, i32_w]
            rfl
          refine done_ (done_of HT_.out (by kernel_rfl)) ?_
          have hB9 := Fr.below (below_drew HR.out.bel) HF9.out HR.out.bel.size HGB.out.1 HGB.out.2
          have HB9 := Lib.hid hB9
          have HQ9 := Lib.hid (ri_other (w := wr.drew) HR.out.two.bi (HR.out.two.ri.below (below_drew (Below.refl _ _))) HF9.out)
          clear q0 q1 q2 q3 q4 q5 q6
          obtain ⟨ad2, ead, q0, q1, q2, q3, q4, q5, q6⟩ := at_T47 (Kd.C_below HC.out HB9.out) i hi0 hlt
          cases ead
          rw [HX.out] at q0 q1 q2 q3 q4 q5 q6
          have HWQ := Lib.hid (Rf.write_calls w9.drew gr L (0 + i) (HQ9.out.below (below_drew (Below.refl _ _))) (by have := HR.out.len; have := HR.out.two.len; omega) (by omega) (by omega) blk x.f3 x.f4)
          clear hB9
          go_wp2_with fail
          refine start_ (n := 13) (S := fun w' => w'.cell? ⟨(ad.add (i.toNat * 7)).block, (ad.add (i.toNat * 7)).off + 3, none⟩ = some (.string x.f3) ∧ w'.cell? ⟨(ad.add (i.toNat * 7)).block, (ad.add (i.toNat * 7)).off + 4, none⟩ = some (.int .i64 x.f4.f0) ∧ w'.cell? ⟨(ad.add (i.toNat * 7)).block, (ad.add (i.toNat * 7)).off + 5, none⟩ = some (.int .u64 x.f4.f1) ∧ w'.cell? ⟨(ad.add (i.toNat * 7)).block, (ad.add (i.toNat * 7)).off + 6, none⟩ = some (.int .u64 x.f4.f2)) (ds := [12]) #[false, false, false, false, false, false, false, false, false, false, false, false, false] (by kernel_rfl) rfl rfl ⟨q3, q4, q5, q6⟩ (fun hHeld => ?_)
          refine with_tabW Stays_r.tab9 Stays_r.bits9 (fun HT_ HW_ => ?_)
          refine pure_ (i := 0) (N := some 48) (v := ?_) (a' := ?_) #[true, false, false, false, false, false, false, false, false, false, false, false, false] rfl rfl (any_of HT_.out (by kernel_rfl)) (fun _ _ _ h => h) (Or.inl ⟨by rfl, ?_⟩) ?_ ?_
          rotate_left
          · intro w'
            go_simp
            with_reducible rfl
          rotate_left
          · simp only [Act.put, List.setIfInBounds_toArray, List.set_cons_zero, List.set_cons_succ, i64_w, i32_w]
            rfl
          refine pure_ (i := 1) (N := some 49) (v := ?_) (a' := ?_) #[true, true, false, false, false, false, false, false, false, false, false, false, false] rfl rfl (any_of HT_.out (by kernel_rfl)) (fun _ _ _ h => h) (Or.inl ⟨by rfl, ?_⟩) ?_ ?_
          rotate_left
          · intro w'
            go_simp
            with_reducible rfl
          rotate_left
          · simp only [Act.put, List.setIfInBounds_toArray, List.set_cons_zero, List.set_cons_succ, i64_w, i32_w]
            rfl
          refine pure_ (i := 2) (N := some 50) (v := ?_) (a' := ?_) #[true, true, true, false, false, false, false, false, false, false, false, false, false] rfl rfl (any_of HT_.out (by kernel_rfl)) (fun _ _ _ h => h) (Or.inl ⟨by rfl, ?_⟩) ?_ ?_
          rotate_left
          · intro w'
            go_simp
            with_reducible rfl
          rotate_left
          · simp only [Act.put, List.setIfInBounds_toArray, List.set_cons_zero, List.set_cons_succ, i64_w, i32_w]
            rfl
          refine pure_ (i := 3) (N := some 51) (v := ?_) (a' := ?_) #[true, true, true, true, false, false, false, false, false, false, false, false, false] rfl rfl (any_of HT_.out (by kernel_rfl)) (fun _ _ _ h => h) (Or.inl ⟨by rfl, ?_⟩) ?_ ?_
          rotate_left
          · intro w'
            go_simp
            with_reducible rfl
          rotate_left
          · simp only [Act.put, List.setIfInBounds_toArray, List.set_cons_zero, List.set_cons_succ, i64_w, i32_w]
            rfl
          refine pure_ (i := 4) (N := some 52) (v := ?_) (a' := ?_) #[true, true, true, true, true, false, false, false, false, false, false, false, false] rfl rfl (any_of HT_.out (by kernel_rfl)) (fun _ _ _ h => h) (Or.inl ⟨by rfl, ?_⟩) ?_ ?_
          rotate_left
          · intro w'
            go_simp
            with_reducible rfl
          rotate_left
          · simp only [Act.put, List.setIfInBounds_toArray, List.set_cons_zero, List.set_cons_succ, i64_w, i32_w]
            rfl
          refine pure_ (i := 5) (N := some 53) (v := ?_) (a' := ?_) #[true, true, true, true, true, true, false, false, false, false, false, false, false] rfl rfl (any_of HT_.out (by kernel_rfl)) (fun _ _ _ h => h) (Or.inl ⟨by rfl, ?_⟩) ?_ ?_
          rotate_left
          · intro w'
            go_simp
            with_reducible rfl
          rotate_left
          · simp only [Act.put, List.setIfInBounds_toArray, List.set_cons_zero, List.set_cons_succ, i64_w, i32_w]
            rfl
          refine pure_ (i := 7) (N := some 55) (v := ?_) (a' := ?_) #[true, true, true, true, true, true, false, true, false, false, false, false, false] rfl rfl (any_of HT_.out (by kernel_rfl)) (fun _ _ _ h => h) (Or.inl ⟨by rfl, ?_⟩) ?_ ?_
          rotate_left
          · intro w'
            go_simp
            with_reducible rfl
          rotate_left
          · simp only [Act.put, List.setIfInBounds_toArray, List.set_cons_zero, List.set_cons_succ, i64_w, i32_w]
            rfl
          refine pure_ (i := 8) (N := some 56) (v := ?_) (a' := ?_) #[true, true, true, true, true, true, false, true, true, false, false, false, false] rfl rfl (any_of HT_.out (by kernel_rfl)) (fun _ _ _ h => h) (Or.inl ⟨by rfl, ?_⟩) ?_ ?_
          rotate_left
          · intro w'
            go_simp
            with_reducible rfl
          rotate_left
          · simp only [Act.put, List.setIfInBounds_toArray, List.set_cons_zero, List.set_cons_succ, i64_w, i32_w]
            rfl
          refine pure_ (i := 9) (N := some 57) (v := ?_) (a' := ?_) #[true, true, true, true, true, true, false, true, true, true, false, false, false] rfl rfl (any_of HT_.out (by kernel_rfl)) (fun _ _ _ h => h) (Or.inl ⟨by rfl, ?_⟩) ?_ ?_
          rotate_left
          · intro w'
            go_simp
            with_reducible rfl
          rotate_left
          · simp only [Act.put, List.setIfInBounds_toArray, List.set_cons_zero, List.set_cons_succ, i64_w, i32_w]
            rfl
          refine pure_ (i := 10) (N := some 58) (v := ?_) (a' := ?_) #[true, true, true, true, true, true, false, true, true, true, true, false, false] rfl rfl (any_of HT_.out (by kernel_rfl)) (fun _ _ _ h => h) (Or.inl ⟨by rfl, ?_⟩) ?_ ?_
          rotate_left
          · intro w'
            go_simp
            with_reducible rfl
          rotate_left
          · simp only [Act.put, List.setIfInBounds_toArray, List.set_cons_zero, List.set_cons_succ, i64_w, i32_w]
            rfl
          refine take_ (i := 6) (N := some 54) (v := ?_) (a' := ?_) #[true, true, true, true, true, true, true, true, true, true, true, false, false] rfl rfl (take_ofW HT_.out HW_.out (by kernel_rfl)) (fun _ _ _ h => h) (Or.inl ⟨by rfl, ?_⟩) hHeld ?_ ?_
          rotate_left
          · rintro w' ⟨s0, s1, s2, s3⟩
            go_simp
            with_reducible rfl
          rotate_left
          · simp only [Act.put, List.setIfInBounds_toArray, List.set_cons_zero, List.set_cons_succ, i64_w, i32_w]
            rfl
          refine take_ (i := 11) (N := some 59) (v := ?_) (a' := ?_) #[true, true, true, true, true, true, true, true, true, true, true, true, false] rfl rfl (take_ofW HT_.out HW_.out (by kernel_rfl)) (fun _ _ _ h => h) (Or.inl ⟨by rfl, ?_⟩) hHeld ?_ ?_
          rotate_left
          · rintro w' ⟨s0, s1, s2, s3⟩
            go_simp
            with_reducible rfl
          rotate_left
          · simp only [Act.put, List.setIfInBounds_toArray, List.set_cons_zero, List.set_cons_succ, i64_w, i32_w]
            rfl
          refine last_ (i := 12) (N := some 60) #[true, true, true, true, true, true, true, true, true, true, true, true, true] rfl rfl (one_of HT_.out (by kernel_rfl)) (by decide) (fun K hK => ?_)
          refine goes_ Try.func17 (by kernel_rfl) rfl #[.pointer (some ⟨gr, 0, none⟩), .int .i64 blk, .string x.f3, .agg #[.int .i64 x.f4.f0, .int .u64 x.f4.f1, .int .u64 x.f4.f2]] (by rfl) rfl rfl (by simp only [List.map_toArray, List.map_cons, List.map_nil]; rfl) ?_
          with_reducible refine (HWQ.out).mono ?_
          rintro e w10 ⟨rfl, hI10, hF10⟩
          refine ⟨_, rfl, ?_⟩
          have HI10 := Lib.hid hI10
          have HF10 := Lib.hid hF10
          clear hI10 hF10
          refine hK.out _ _ ?_
          clear hK K
          refine norm_ (a' := ?_) ?_ ?_
          rotate_left
          · show Act.put _ (some 60) _ = _
            simp only [Act.put, List.setIfInBounds_toArray, List.set_cons_zero, List.set_cons_succ, i64_w, i32_w]
            rfl
          refine done_ (done_of HT_.out (by kernel_rfl)) ?_
          go_wp2_with fail
          go_roundg (la.length - i - 1).toNat
          case measure => have := HG.out; omega
          case rel => exact ⟨i + 1, _, _, by first | rfl | (simp [hwr5]; done) | rw [hwr5], ⟨by have := HG.out; omega⟩, ⟨HR.out.next hlt x.f3 x.f4 HOK.out.1 (HI9.out.below (below_drew (Below.refl _ _))) (HQ9.out.below (below_drew (Below.refl _ _))) HI10.out HF10.out (Fr.below (below_drew HB9.out) HF10.out HB9.out.size HGR.out HGR.out)⟩⟩
        · have hie : i = la.length := by have := HR.out.i1; omega
          have hS := HR.out
          rw [hie] at hS
          obtain ⟨va, hva⟩ : ∃ va : Int, va = 0 + (la.length : Int) := ⟨_, rfl⟩
          have HS := Lib.hid (show Two wr g b gr m L va ∧ (m.length : Int) ≤ va ∧ (∀ o ∈ L, o.f0 = blk) ∧ Below w.heap.size w wr from ⟨by rw [hva]; exact hS.two, by rw [hva]; exact hS.len, hS.blks, hS.bel⟩)
          have HVA := Lib.hid (show 0 ≤ va ∧ va ≤ 256 by omega)
          have hge : ¬ i < la.length := hlt
          have HTK := Lib.hid (Tk.take_calls wr g b m va HS.out.1.bi blk (by have := HS.out.2.1; have := HVA.out; omega) HS.out.1.sz)
          clear hva hS HR HG hie HC HWF hla
          go_wp2_with fail
          with_reducible refine HTK.out.mono ?_
          rintro e w10 ⟨v10, l10, rfl, hT, hV, hB10⟩
          have HT10 := Lib.hid hT
          have HV10 := Lib.hid (Kd.R_V (base' := 0) hV)
          have HS10 := Lib.hid (And.intro (HS.out.1.below hB10) (below_then HS.out.2.2.2 HS.out.2.2.2.size hB10))
          have HRT := Lib.hid (Rf.rtake_calls w10 gr L va HS10.out.1.ri (by have := HS.out.2.1; have := HS.out.1.len; have := HVA.out; omega) HS.out.1.ndL blk)
          clear hT hV hB10 HTK
          go_wp2_with fail
          with_reducible refine HRT.out.mono ?_
          rintro e w11 ⟨v11, rfl, hV, hB11⟩
          have hl10 := HS10.out.1.take HT10.out
          have HS11 := Lib.hid (And.intro (HS10.out.1.below hB11) (below_then HS10.out.2 HS10.out.2.size hB11))
          have HSM := Lib.hid (sameS_any (Kd.V_below HV10.out hB11) (hl10 ▸ hV) (by have := (Tk.takeIs_lens HT10.out).2; have := HS.out.2.1; have := HVA.out; omega) (fun s hs => by have := (Tk.takeIs_lens HT10.out).1 s hs; have := HS.out.2.1; have := HVA.out; omega))
          have hne : (va != va) = false := by simp
          clear hV hB11 hl10 HRT HT10 HV10 HS10
          go_wp2_with fail
          with_reducible refine HSM.out.mono ?_
          rintro e w12 ⟨rfl, hB12⟩
          have HS12 := Lib.hid (show RS w w12 g b gr blk lb.length va 0 m L from ⟨Int.le_refl _, by omega, by rw [Int.add_zero]; exact HS11.out.1.below hB12, by rw [Int.add_zero]; exact HS.out.2.1, HS.out.2.2.1, below_then HS11.out.2 HS11.out.2.size hB12⟩)
          clear hB12 HSM HS11 HS
          go_wp2_with fail
          go_loopg [14] lb.length (fun gn v14 wr => ∃ (i : Int) (m : Mp) (L : List One), v14 = .int .i64 i ∧ Aside0 ((gn : Int) = lb.length - i) ∧ Aside0 (RS w wr g b gr blk lb.length va i m L))
          case atStart => exact ⟨0, m, L, rfl, ⟨by omega⟩, ⟨HS12.out⟩⟩
          case round =>
            clear HS12
            obtain ⟨i, m, L, rfl, HG, HR⟩ := hrel
            have hi0 := HR.out.i0
            by_cases hlt : i < lb.length
            · obtain ⟨ad, ead, q0, q1, q2, q3, q4, q5, q6⟩ := at_T47 (Kd.C_below HC1.out HR.out.bel) i hi0 hlt
              cases ead
              obtain ⟨x, hx⟩ : ∃ x, rd_T47 lb i = x := ⟨_, rfl⟩
              have hxm : x ∈ lb := by rw [← hx]; exact Buf.rd47_mem hi0 hlt
              rw [hx] at q0 q1 q2 q3 q4 q5 q6
              have hok := HWF1.out x hxm
              have HOK := Lib.hid (And.intro hok.2.1 hok.2.2)
              have HX := Lib.hid hx
              have hi1 : i ≤ 256 := by omega
              have hwr5 : wrap64 (i + 1) = i + 1 := by unfold wrap64; omega
              have HWR := Lib.hid (Buf.write_calls wr.drew g b m (va + i) HR.out.two.bi blk x.f3 x.f4 ⟨HBK.out, HOK.out.1, HOK.out.2⟩ (by have := HVA.out; omega) (by have := HVA.out; omega) (by have := HR.out.len; have := HVA.out; unfold maxLen; omega))
              clear hx hxm hok
              go_wp2_with fail
              refine start_ (n := 13) (S := fun w' => w'.cell? ⟨(ad.add (i.toNat * 7)).block, (ad.add (i.toNat * 7)).off + 3, none⟩ = some (.string x.f3) ∧ w'.cell? ⟨(ad.add (i.toNat * 7)).block, (ad.add (i.toNat * 7)).off + 4, none⟩ = some (.int .i64 x.f4.f0) ∧ w'.cell? ⟨(ad.add (i.toNat * 7)).block, (ad.add (i.toNat * 7)).off + 5, none⟩ = some (.int .u64 x.f4.f1) ∧ w'.cell? ⟨(ad.add (i.toNat * 7)).block, (ad.add (i.toNat * 7)).off + 6, none⟩ = some (.int .u64 x.f4.f2)) (ds := [12]) #[false, false, false, false, false, false, false, false, false, false, false, false, false] (by kernel_rfl) rfl rfl ⟨q3, q4, q5, q6⟩ (fun hHeld => ?_)
              refine with_tabW Stays_r.tab17 Stays_r.bits17 (fun HT_ HW_ => ?_)
              refine pure_ (i := 0) (N := some 88) (v := ?_) (a' := ?_) #[true, false, false, false, false, false, false, false, false, false, false, false, false] rfl rfl (any_of HT_.out (by kernel_rfl)) (fun _ _ _ h => h) (Or.inl ⟨by rfl, ?_⟩) ?_ ?_
              rotate_left
              · intro w'
                go_simp
                with_reducible rfl
              rotate_left
              · simp only [Act.put, List.setIfInBounds_toArray, List.set_cons_zero, List.set_cons_succ, i64_w, i32_w]
                rfl
              refine pure_ (i := 1) (N := some 89) (v := ?_) (a' := ?_) #[true, true, false, false, false, false, false, false, false, false, false, false, false] rfl rfl (any_of HT_.out (by kernel_rfl)) (fun _ _ _ h => h) (Or.inl ⟨by rfl, ?_⟩) ?_ ?_
              rotate_left
              · intro w'
                go_simp
                with_reducible rfl
              rotate_left
              · simp only [Act.put, List.setIfInBounds_toArray, List.set_cons_zero, List.set_cons_succ, i64_w, i32_w]
                rfl
              refine pure_ (i := 2) (N := some 90) (v := ?_) (a' := ?_) #[true, true, true, false, false, false, false, false, false, false, false, false, false] rfl rfl (any_of HT_.out (by kernel_rfl)) (fun _ _ _ h => h) (Or.inl ⟨by rfl, ?_⟩) ?_ ?_
              rotate_left
              · intro w'
                go_simp
                with_reducible rfl
              rotate_left
              · simp only [Act.put, List.setIfInBounds_toArray, List.set_cons_zero, List.set_cons_succ, i64_w, i32_w]
                rfl
              refine pure_ (i := 3) (N := some 91) (v := ?_) (a' := ?_) #[true, true, true, true, false, false, false, false, false, false, false, false, false] rfl rfl (any_of HT_.out (by kernel_rfl)) (fun _ _ _ h => h) (Or.inl ⟨by rfl, ?_⟩) ?_ ?_
              rotate_left
              · intro w'
                go_simp
                with_reducible rfl
              rotate_left
              · simp only [Act.put, List.setIfInBounds_toArray, List.set_cons_zero, List.set_cons_succ, i64_w, i32_w]
                rfl
              refine pure_ (i := 4) (N := some 92) (v := ?_) (a' := ?_) #[true, true, true, true, true, false, false, false, false, false, false, false, false] rfl rfl (any_of HT_.out (by kernel_rfl)) (fun _ _ _ h => h) (Or.inl ⟨by rfl, ?_⟩) ?_ ?_
              rotate_left
              · intro w'
                go_simp
                with_reducible rfl
              rotate_left
              · simp only [Act.put, List.setIfInBounds_toArray, List.set_cons_zero, List.set_cons_succ, i64_w, i32_w]
                rfl
              refine pure_ (i := 5) (N := some 93) (v := ?_) (a' := ?_) #[true, true, true, true, true, true, false, false, false, false, false, false, false] rfl rfl (any_of HT_.out (by kernel_rfl)) (fun _ _ _ h => h) (Or.inl ⟨by rfl, ?_⟩) ?_ ?_
              rotate_left
              · intro w'
                go_simp
                with_reducible rfl
              rotate_left
              · simp only [Act.put, List.setIfInBounds_toArray, List.set_cons_zero, List.set_cons_succ, i64_w, i32_w]
                rfl
              refine pure_ (i := 7) (N := some 95) (v := ?_) (a' := ?_) #[true, true, true, true, true, true, false, true, false, false, false, false, false] rfl rfl (any_of HT_.out (by kernel_rfl)) (fun _ _ _ h => h) (Or.inl ⟨by rfl, ?_⟩) ?_ ?_
              rotate_left
              · intro w'
                go_simp
                with_reducible rfl
              rotate_left
              · simp only [Act.put, List.setIfInBounds_toArray, List.set_cons_zero, List.set_cons_succ, i64_w, i32_w]
                rfl
              refine pure_ (i := 8) (N := some 96) (v := ?_) (a' := ?_) #[true, true, true, true, true, true, false, true, true, false, false, false, false] rfl rfl (any_of HT_.out (by kernel_rfl)) (fun _ _ _ h => h) (Or.inl ⟨by rfl, ?_⟩) ?_ ?_
              rotate_left
              · intro w'
                go_simp
                with_reducible rfl
              rotate_left
              · simp only [Act.put, List.setIfInBounds_toArray, List.set_cons_zero, List.set_cons_succ, i64_w, i32_w]
                rfl
              refine pure_ (i := 9) (N := some 97) (v := ?_) (a' := ?_) #[true, true, true, true, true, true, false, true, true, true, false, false, false] rfl rfl (any_of HT_.out (by kernel_rfl)) (fun _ _ _ h => h) (Or.inl ⟨by rfl, ?_⟩) ?_ ?_
              rotate_left
              · intro w'
                go_simp
                with_reducible rfl
              rotate_left
              · simp only [Act.put, List.setIfInBounds_toArray, List.set_cons_zero, List.set_cons_succ, i64_w, i32_w]
                rfl
              refine pure_ (i := 10) (N := some 98) (v := ?_) (a' := ?_) #[true, true, true, true, true, true, false, true, true, true, true, false, false] rfl rfl (any_of HT_.out (by kernel_rfl)) (fun _ _ _ h => h) (Or.inl ⟨by rfl, ?_⟩) ?_ ?_
              rotate_left
              · intro w'
                go_simp
                with_reducible rfl
              rotate_left
              · simp only [Act.put, List.setIfInBounds_toArray, List.set_cons_zero, List.set_cons_succ, i64_w, i32_w]
                rfl
              refine take_ (i := 6) (N := some 94) (v := ?_) (a' := ?_) #[true, true, true, true, true, true, true, true, true, true, true, false, false] rfl rfl (take_ofW HT_.out HW_.out (by kernel_rfl)) (fun _ _ _ h => h) (Or.inl ⟨by rfl, ?_⟩) hHeld ?_ ?_
              rotate_left
              · rintro w' ⟨s0, s1, s2, s3⟩
                go_simp
                with_reducible rfl
              rotate_left
              · simp only [Act.put, List.setIfInBounds_toArray, List.set_cons_zero, List.set_cons_succ, i64_w, i32_w]
                rfl
              refine take_ (i := 11) (N := some 99) (v := ?_) (a' := ?_) #[true, true, true, true, true, true, true, true, true, true, true, true, false] rfl rfl (take_ofW HT_.out HW_.out (by kernel_rfl)) (fun _ _ _ h => h) (Or.inl ⟨by rfl, ?_⟩) hHeld ?_ ?_
              rotate_left
              · rintro w' ⟨s0, s1, s2, s3⟩
                go_simp
                with_reducible rfl
              rotate_left
              · simp only [Act.put, List.setIfInBounds_toArray, List.set_cons_zero, List.set_cons_succ, i64_w, i32_w]
                rfl
              refine last_ (i := 12) (N := some 100) #[true, true, true, true, true, true, true, true, true, true, true, true, true] rfl rfl (one_of HT_.out (by kernel_rfl)) (by decide) (fun K hK => ?_)
              refine goes_ Try.func9 (by kernel_rfl) rfl #[.pointer (some ⟨g, 0, none⟩), .int .i64 blk, .string x.f3, .agg #[.int .i64 x.f4.f0, .int .u64 x.f4.f1, .int .u64 x.f4.f2]] (by rfl) rfl rfl (by simp only [List.map_toArray, List.map_cons, List.map_nil]; rfl) ?_
              with_reducible refine (HWR.out).mono ?_
              rintro e w9 ⟨rfl, hI9, hF9⟩
              refine ⟨_, rfl, ?_⟩
              have HI9 := Lib.hid hI9
              have HF9 := Lib.hid hF9
              clear hI9 hF9
              refine hK.out _ _ ?_
              clear hK K
              refine norm_ (a' := ?_) ?_ ?_
              rotate_left
              · show Act.put _ (some 100) _ = _
                simp only [Act.put, List.setIfInBounds_toArray, List.set_cons_zero, List.set_cons_succ, i64_w, i32_w]
                rfl
              refine done_ (done_of HT_.out (by kernel_rfl)) ?_
              have hB9 := Fr.below (below_drew HR.out.bel) HF9.out HR.out.bel.size HGB.out.1 HGB.out.2
              have HB9 := Lib.hid hB9
              have HQ9 := Lib.hid (ri_other (w := wr.drew) HR.out.two.bi (HR.out.two.ri.below (below_drew (Below.refl _ _))) HF9.out)
              clear q0 q1 q2 q3 q4 q5 q6
              obtain ⟨ad2, ead, q0, q1, q2, q3, q4, q5, q6⟩ := at_T47 (Kd.C_below HC1.out HB9.out) i hi0 hlt
              cases ead
              rw [HX.out] at q0 q1 q2 q3 q4 q5 q6
              have HWQ := Lib.hid (Rf.write_calls w9.drew gr L (va + i) (HQ9.out.below (below_drew (Below.refl _ _))) (by have := HR.out.len; have := HR.out.two.len; have := HVA.out; omega) (by have := HVA.out; omega) (by have := HVA.out; omega) blk x.f3 x.f4)
              clear hB9
              go_wp2_with fail
              refine start_ (n := 13) (S := fun w' => w'.cell? ⟨(ad.add (i.toNat * 7)).block, (ad.add (i.toNat * 7)).off + 3, none⟩ = some (.string x.f3) ∧ w'.cell? ⟨(ad.add (i.toNat * 7)).block, (ad.add (i.toNat * 7)).off + 4, none⟩ = some (.int .i64 x.f4.f0) ∧ w'.cell? ⟨(ad.add (i.toNat * 7)).block, (ad.add (i.toNat * 7)).off + 5, none⟩ = some (.int .u64 x.f4.f1) ∧ w'.cell? ⟨(ad.add (i.toNat * 7)).block, (ad.add (i.toNat * 7)).off + 6, none⟩ = some (.int .u64 x.f4.f2)) (ds := [12]) #[false, false, false, false, false, false, false, false, false, false, false, false, false] (by kernel_rfl) rfl rfl ⟨q3, q4, q5, q6⟩ (fun hHeld => ?_)
              refine with_tabW Stays_r.tab18 Stays_r.bits18 (fun HT_ HW_ => ?_)
              refine pure_ (i := 0) (N := some 101) (v := ?_) (a' := ?_) #[true, false, false, false, false, false, false, false, false, false, false, false, false] rfl rfl (any_of HT_.out (by kernel_rfl)) (fun _ _ _ h => h) (Or.inl ⟨by rfl, ?_⟩) ?_ ?_
              rotate_left
              · intro w'
                go_simp
                with_reducible rfl
              rotate_left
              · simp only [Act.put, List.setIfInBounds_toArray, List.set_cons_zero, List.set_cons_succ, i64_w, i32_w]
                rfl
              refine pure_ (i := 1) (N := some 102) (v := ?_) (a' := ?_) #[true, true, false, false, false, false, false, false, false, false, false, false, false] rfl rfl (any_of HT_.out (by kernel_rfl)) (fun _ _ _ h => h) (Or.inl ⟨by rfl, ?_⟩) ?_ ?_
              rotate_left
              · intro w'
                go_simp
                with_reducible rfl
              rotate_left
              · simp only [Act.put, List.setIfInBounds_toArray, List.set_cons_zero, List.set_cons_succ, i64_w, i32_w]
                rfl
              refine pure_ (i := 2) (N := some 103) (v := ?_) (a' := ?_) #[true, true, true, false, false, false, false, false, false, false, false, false, false] rfl rfl (any_of HT_.out (by kernel_rfl)) (fun _ _ _ h => h) (Or.inl ⟨by rfl, ?_⟩) ?_ ?_
              rotate_left
              · intro w'
                go_simp
                with_reducible rfl
              rotate_left
              · simp only [Act.put, List.setIfInBounds_toArray, List.set_cons_zero, List.set_cons_succ, i64_w, i32_w]
                rfl
              refine pure_ (i := 3) (N := some 104) (v := ?_) (a' := ?_) #[true, true, true, true, false, false, false, false, false, false, false, false, false] rfl rfl (any_of HT_.out (by kernel_rfl)) (fun _ _ _ h => h) (Or.inl ⟨by rfl, ?_⟩) ?_ ?_
              rotate_left
              · intro w'
                go_simp
                with_reducible rfl
              rotate_left
              · simp only [Act.put, List.setIfInBounds_toArray, List.set_cons_zero, List.set_cons_succ, i64_w, i32_w]
                rfl
              refine pure_ (i := 4) (N := some 105) (v := ?_) (a' := ?_) #[true, true, true, true, true, false, false, false, false, false, false, false, false] rfl rfl (any_of HT_.out (by kernel_rfl)) (fun _ _ _ h => h) (Or.inl ⟨by rfl, ?_⟩) ?_ ?_
              rotate_left
              · intro w'
                go_simp
                with_reducible rfl
              rotate_left
              · simp only [Act.put, List.setIfInBounds_toArray, List.set_cons_zero, List.set_cons_succ, i64_w, i32_w]
                rfl
              refine pure_ (i := 5) (N := some 106) (v := ?_) (a' := ?_) #[true, true, true, true, true, true, false, false, false, false, false, false, false] rfl rfl (any_of HT_.out (by kernel_rfl)) (fun _ _ _ h => h) (Or.inl ⟨by rfl, ?_⟩) ?_ ?_
              rotate_left
              · intro w'
                go_simp
                with_reducible rfl
              rotate_left
              · simp only [Act.put, List.setIfInBounds_toArray, List.set_cons_zero, List.set_cons_succ, i64_w, i32_w]
                rfl
              refine pure_ (i := 7) (N := some 108) (v := ?_) (a' := ?_) #[true, true, true, true, true, true, false, true, false, false, false, false, false] rfl rfl (any_of HT_.out (by kernel_rfl)) (fun _ _ _ h => h) (Or.inl ⟨by rfl, ?_⟩) ?_ ?_
              rotate_left
              · intro w'
                go_simp
                with_reducible rfl
              rotate_left
              · simp only [Act.put, List.setIfInBounds_toArray, List.set_cons_zero, List.set_cons_succ, i64_w, i32_w]
                rfl
              refine pure_ (i := 8) (N := some 109) (v := ?_) (a' := ?_) #[true, true, true, true, true, true, false, true, true, false, false, false, false] rfl rfl (any_of HT_.out (by kernel_rfl)) (fun _ _ _ h => h) (Or.inl ⟨by rfl, ?_⟩) ?_ ?_
              rotate_left
              · intro w'
                go_simp
                with_reducible rfl
              rotate_left
              · simp only [Act.put, List.setIfInBounds_toArray, List.set_cons_zero, List.set_cons_succ, i64_w, i32_w]
                rfl
              refine pure_ (i := 9) (N := some 110) (v := ?_) (a' := ?_) #[true, true, true, true, true, true, false, true, true, true, false, false, false] rfl rfl (any_of HT_.out (by kernel_rfl)) (fun _ _ _ h => h) (Or.inl ⟨by rfl, ?_⟩) ?_ ?_
              rotate_left
              · intro w'
                go_simp
                with_reducible rfl
              rotate_left
              · simp only [Act.put, List.setIfInBounds_toArray, List.set_cons_zero, List.set_cons_succ, i64_w, i32_w]
                rfl
              refine pure_ (i := 10) (N := some 111) (v := ?_) (a' := ?_) #[true, true, true, true, true, true, false, true, true, true, true, false, false] rfl rfl (any_of HT_.out (by kernel_rfl)) (fun _ _ _ h => h) (Or.inl ⟨by rfl, ?_⟩) ?_ ?_
              rotate_left
              · intro w'
                go_simp
                with_reducible rfl
              rotate_left
              · simp only [Act.put, List.setIfInBounds_toArray, List.set_cons_zero, List.set_cons_succ, i64_w, i32_w]
                rfl
              refine take_ (i := 6) (N := some 107) (v := ?_) (a' := ?_) #[true, true, true, true, true, true, true, true, true, true, true, false, false] rfl rfl (take_ofW HT_.out HW_.out (by kernel_rfl)) (fun _ _ _ h => h) (Or.inl ⟨by rfl, ?_⟩) hHeld ?_ ?_
              rotate_left
              · rintro w' ⟨s0, s1, s2, s3⟩
                go_simp
                with_reducible rfl
              rotate_left
              · simp only [Act.put, List.setIfInBounds_toArray, List.set_cons_zero, List.set_cons_succ, i64_w, i32_w]
                rfl
              refine take_ (i := 11) (N := some 112) (v := ?_) (a' := ?_) #[true, true, true, true, true, true, true, true, true, true, true, true, false] rfl rfl (take_ofW HT_.out HW_.out (by kernel_rfl)) (fun _ _ _ h => h) (Or.inl ⟨by rfl, ?_⟩) hHeld ?_ ?_
              rotate_left
              · rintro w' ⟨s0, s1, s2, s3⟩
                go_simp
                with_reducible rfl
              rotate_left
              · simp only [Act.put, List.setIfInBounds_toArray, List.set_cons_zero, List.set_cons_succ, i64_w, i32_w]
                rfl
              refine last_ (i := 12) (N := some 113) #[true, true, true, true, true, true, true, true, true, true, true, true, true] rfl rfl (one_of HT_.out (by kernel_rfl)) (by decide) (fun K hK => ?_)
              refine goes_ Try.func17 (by kernel_rfl) rfl #[.pointer (some ⟨gr, 0, none⟩), .int .i64 blk, .string x.f3, .agg #[.int .i64 x.f4.f0, .int .u64 x.f4.f1, .int .u64 x.f4.f2]] (by rfl) rfl rfl (by simp only [List.map_toArray, List.map_cons, List.map_nil]; rfl) ?_
              with_reducible refine (HWQ.out).mono ?_
              rintro e w10 ⟨rfl, hI10, hF10⟩
              refine ⟨_, rfl, ?_⟩
              have HI10 := Lib.hid hI10
              have HF10 := Lib.hid hF10
              clear hI10 hF10
              refine hK.out _ _ ?_
              clear hK K
              refine norm_ (a' := ?_) ?_ ?_
              rotate_left
              · show Act.put _ (some 113) _ = _
                simp only [Act.put, List.setIfInBounds_toArray, List.set_cons_zero, List.set_cons_succ, i64_w, i32_w]
                rfl
              refine done_ (done_of HT_.out (by kernel_rfl)) ?_
              go_wp2_with fail
              go_roundg (lb.length - i - 1).toNat
              case measure => have := HG.out; omega
              case rel => exact ⟨i + 1, _, _, by first | rfl | (simp [hwr5]; done) | rw [hwr5], ⟨by have := HG.out; omega⟩, ⟨HR.out.next hlt x.f3 x.f4 HOK.out.1 (HI9.out.below (below_drew (Below.refl _ _))) (HQ9.out.below (below_drew (Below.refl _ _))) HI10.out HF10.out (Fr.below (below_drew HB9.out) HF10.out HB9.out.size HGR.out HGR.out)⟩⟩
            · have hie : i = lb.length := by have := HR.out.i1; omega
              have hS := HR.out
              rw [hie] at hS
              obtain ⟨vb, hvb⟩ : ∃ vb : Int, vb = va + (lb.length : Int) := ⟨_, rfl⟩
              have HS := Lib.hid (show Two wr g b gr m L vb ∧ (m.length : Int) ≤ vb ∧ (∀ o ∈ L, o.f0 = blk) ∧ Below w.heap.size w wr from ⟨by rw [hvb]; exact hS.two, by rw [hvb]; exact hS.len, hS.blks, hS.bel⟩)
              have HVB := Lib.hid (show m.length ≤ 512 by have := HS.out.2.1; have := HVA.out; omega)
              have HDN := Lib.hid (Buf.done_calls wr g b m vb HS.out.1.bi (by have := HVB.out; omega) blk va)
              clear hvb hS HR HG hie HC1 HWF1 hlb
              go_wp2_with fail
              with_reducible refine HDN.out.mono ?_
              rintro e w13 ⟨rfl, hI, hF⟩
              have HI13 := Lib.hid hI
              have HQ13 := Lib.hid (ri_other HS.out.1.bi HS.out.1.ri hF)
              have HB13 := Lib.hid (Fr.below HS.out.2.2.2 hF HS.out.2.2.2.size HGB.out.1 HGB.out.2)
              have hDR := Rf.done_calls w13 gr L vb HQ13.out (by have := HVB.out; have := HS.out.1.len; omega) blk va
              rw [HS.out.1.len, ← done_same HS.out.1.pm blk va] at hDR
              have HDR := Lib.hid hDR
              clear hI hF HDN hDR
              go_wp2_with fail
              with_reducible refine HDR.out.mono ?_
              rintro e w14 ⟨rfl, hI, hF⟩
              have HB14 := Lib.hid (Fr.below HB13.out hF HB13.out.size HGR.out HGR.out)
              have HT14 := Lib.hid (HS.out.1.did blk va HI13.out HQ13.out hI hF)
              have hne2 : (((m.length : Int) - ((m.filter (Buf.keepE blk va)).length : Nat)) != ((m.length : Int) - ((m.filter (Buf.keepE blk va)).length : Nat))) = false := by simp
              clear hI hF HDR HI13 HQ13 HB13
              have HM2 := Lib.hid (show (m.filter (Buf.keepE blk va)).length ≤ 512 by have := List.length_filter_le (Buf.keepE blk va) m; have := HVB.out; omega)
              have HL2 := Lib.hid (show ∀ o ∈ L.filter (Rf.keepO blk va), va < o.f3 from fun o ho => by
                obtain ⟨h1, h2⟩ := List.mem_filter.1 ho
                have h3 := HS.out.2.2.1 o h1
                unfold Rf.keepO at h2
                rw [h3] at h2
                simpa using h2)
              go_wp2_with fail
              clear hne2 HS
              obtain ⟨m2, hm2⟩ : ∃ m2, m2 = m.filter (Buf.keepE blk va) := ⟨_, rfl⟩
              obtain ⟨L2, hL2⟩ : ∃ L2, L2 = L.filter (Rf.keepO blk va) := ⟨_, rfl⟩
              rw [← hm2] at HM2
              rw [← hL2] at HL2
              rw [← hm2, ← hL2] at HT14
              clear hm2 hL2 HVB
              obtain ⟨v54, hv54, hR54⟩ := HT14.out.ri.blk
              obtain ⟨A54, c54, rfl⟩ := Kd.R_slice hR54
              have h0c : w14.cell? ⟨gr, 0, none⟩ = some (.slice A54 L2.length c54) := (blk_cell hv54 0).trans rfl
              have HR54 := Lib.hid hR54
              have HV54 := Lib.hid hv54
              clear hR54 hv54
              go_loopg [15] L2.length (fun gn v15 wr => ∃ (i : Nat), v15 = .int .i64 (i : Int) ∧ Aside0 (gn = L2.length - i) ∧ Aside0 (i ≤ L2.length) ∧ Aside0 (Below w14.heap.size w14 wr))
              case atStart => exact ⟨0, rfl, ⟨rfl⟩, ⟨Nat.zero_le _⟩, ⟨Below.refl _ _⟩⟩
              case round =>
                clear h0c
                obtain ⟨i, rfl, HN, HI, HB⟩ := hrel
                have hvr := blk_below HV54.out HB.out
                have h0c : wr.cell? ⟨gr, 0, none⟩ = some (.slice A54 L2.length c54) := (blk_cell hvr 0).trans rfl
                have hL2n : L2.length ≤ 512 := by have := HT14.out.len; have := HM2.out; omega
                by_cases hi : i < L2.length
                · have hi0 : (i : Int) < (L2.length : Int) := by omega
                  have hwr : wrap64 ((i : Int) + 1) = (i : Int) + 1 := by unfold wrap64; omega
                  have hC := (Kd.R_reads' (Kd.R_below HR54.out HB.out)).2.2
                  obtain ⟨ad, ead, q0, q1, q2, q3, q4, q5⟩ := at_T54 hC (i : Int) (by omega) hi0
                  cases ead
                  have hto : ((i : Int)).toNat = i := Int.toNat_natCast i
                  rw [hto] at q0 q1 q2 q3 q4 q5
                  obtain ⟨o, ho⟩ : ∃ o, rd_T54 L2 (i : Int) = o := ⟨_, rfl⟩
                  rw [ho] at q0 q1 q2 q3 q4 q5
                  have hom : va < o.f3 := HL2.out o (by rw [← ho, Rf.rd54 hi]; exact List.getElem_mem hi)
                  have hle : decide (o.f3 ≤ va) = false := decide_eq_false (by omega)
                  have hle2 : ¬ (o.f3 ≤ va) := by omega
                  clear hC ho hto hvr hom
                  go_wp2_with fail
                  go_roundg (L2.length - (i + 1))
                  case measure => have := HN.out; omega
                  case rel => exact ⟨i + 1, by first | (simp [hwr]; done) | (simp; done), ⟨rfl⟩, ⟨hi⟩, HB⟩
                · have hge : ¬ (i : Int) < (L2.length : Int) := by omega
                  have HT := Lib.hid (HT14.out.below HB.out)
                  have HBW := Lib.hid (below_then HB14.out HB14.out.size HB.out)
                  have HTK := Lib.hid (Tk.take_calls wr g b m2 vb HT.out.bi blk (by have := HM2.out; omega) HT.out.sz)
                  clear hvr HR54 HV54 HB HT14 HB14
                  go_wp2_with fail
                  with_reducible refine HTK.out.mono ?_
                  rintro e w15 ⟨v15, l15, rfl, hT, hV, hB15⟩
                  have HT15 := Lib.hid hT
                  have HV15 := Lib.hid (Kd.R_V (base' := 0) hV)
                  have HS15 := Lib.hid (And.intro (HT.out.below hB15) (below_then HBW.out HBW.out.size hB15))
                  have HRT := Lib.hid (Rf.rtake_calls w15 gr L2 vb HS15.out.1.ri (by omega) HT.out.ndL blk)
                  clear hT hV hB15 HTK HT HBW h0c
                  go_wp2_with fail
                  with_reducible refine HRT.out.mono ?_
                  rintro e w16 ⟨v16, rfl, hV, hB16⟩
                  have hl15 := HS15.out.1.take HT15.out
                  have HS16 := Lib.hid (And.intro (HS15.out.1.below hB16) (below_then HS15.out.2 HS15.out.2.size hB16))
                  have hSM := fun (W : World) (hW : Below w16.heap.size w16 W) => sameS_any (Kd.V_below (Kd.V_below HV15.out hB16) hW) (Kd.V_below (hl15 ▸ hV) hW) (by have := (Tk.takeIs_lens HT15.out).2; have := HM2.out; omega) (fun s hs => by have := (Tk.takeIs_lens HT15.out).1 s hs; have := HM2.out; omega)
                  have HSM := Lib.hid hSM
                  obtain ⟨v54, hv54, hR54⟩ := HS16.out.1.ri.blk
                  obtain ⟨A55, c55, rfl⟩ := Kd.R_slice hR54
                  have h0c : w16.cell? ⟨gr, 0, none⟩ = some (.slice A55 L2.length c55) := (blk_cell hv54 0).trans rfl
                  have hLn : ∀ W : World, Below w16.heap.size w16 W → Calls Try.prog 10 #[.pointer (some ⟨g, 0, none⟩)] W fun e w' => e = .returned (.int .i64 m2.length) ∧ W = w' := fun W hW => Buf.len_calls W g b m2 vb (HS16.out.1.bi.below hW)
                  have HLN := Lib.hid hLn
                  have hleq : ((m2.length : Int) == (L2.length : Int)) = true := by have := HS16.out.1.len; simp; omega
                  have hleq2 : (m2.length : Int) = (L2.length : Int) := by have := HS16.out.1.len; omega
                  clear hV hB16 hl15 HRT HT15 HV15 HS15 hSM hLn hv54 hR54
                  go_wp2_with fail
                  refine start_ (n := 14) (S := fun w' => w'.cell? ⟨gr, 0, none⟩ = some (.slice A55 L2.length c55)) (ds := []) #[false, false, false, false, false, false, false, false, false, false, false, false, false, false] (by kernel_rfl) rfl rfl (h0c) (fun hHeld => ?_)
                  refine with_tabW Stays_r.tab28 Stays_r.bits28 (fun HT_ HW_ => ?_)
                  refine pure_ (i := 0) (N := some 154) (v := ?_) (a' := ?_) #[true, false, false, false, false, false, false, false, false, false, false, false, false, false] rfl rfl (any_of HT_.out (by kernel_rfl)) (fun _ _ _ h => h) (Or.inl ⟨by rfl, ?_⟩) ?_ ?_
                  rotate_left
                  · intro w'
                    go_simp
                    with_reducible rfl
                  rotate_left
                  · simp only [Act.put, List.setIfInBounds_toArray, List.set_cons_zero, List.set_cons_succ, i64_w, i32_w]
                    rfl
                  refine pure_ (i := 1) (N := some 155) (v := ?_) (a' := ?_) #[true, true, false, false, false, false, false, false, false, false, false, false, false, false] rfl rfl (any_of HT_.out (by kernel_rfl)) (fun _ _ _ h => h) (Or.inl ⟨by rfl, ?_⟩) ?_ ?_
                  rotate_left
                  · intro w'
                    go_simp
                    with_reducible rfl
                  rotate_left
                  · simp only [Act.put, List.setIfInBounds_toArray, List.set_cons_zero, List.set_cons_succ, i64_w, i32_w]
                    rfl
                  refine one_ (i := 2) (N := some 156) #[true, true, true, false, false, false, false, false, false, false, false, false, false, false] rfl rfl (one_of HT_.out (by kernel_rfl)) (by decide) (fun K hK => ?_)
                  refine goes_ Try.func20 (by kernel_rfl) rfl #[v15, v16] (by rfl) rfl rfl (by simp only [List.map_toArray, List.map_cons, List.map_nil]; rfl) ?_
                  with_reducible refine ((HSM.out _ (below_drew (Below.refl _ _)))).mono ?_
                  rintro e w17 ⟨rfl, hB17⟩
                  refine ⟨_, rfl, ?_⟩
                  have HB17 := Lib.hid hB17
                  clear hB17
                  refine hK.out _ _ (pw_cell_below HB17.out h0c) (fun hHeld => ?_)
                  clear hK K
                  refine norm_ (a' := ?_) ?_ ?_
                  rotate_left
                  · show Act.put _ (some 156) _ = _
                    simp only [Act.put, List.setIfInBounds_toArray, List.set_cons_zero, List.set_cons_succ, i64_w, i32_w]
                    rfl
                  refine pure_ (i := 3) (N := some 157) (v := ?_) (a' := ?_) #[true, true, true, true, false, false, false, false, false, false, false, false, false, false] rfl rfl (any_of HT_.out (by kernel_rfl)) (fun _ _ _ h => h) (Or.inl ⟨by rfl, ?_⟩) ?_ ?_
                  rotate_left
                  · intro w'
                    go_simp
                    with_reducible rfl
                  rotate_left
                  · simp only [Act.put, List.setIfInBounds_toArray, List.set_cons_zero, List.set_cons_succ, i64_w, i32_w]
                    rfl
                  refine pure_ (i := 4) (N := some 158) (v := ?_) (a' := ?_) #[true, true, true, true, true, false, false, false, false, false, false, false, false, false] rfl rfl (any_of HT_.out (by kernel_rfl)) (fun _ _ _ h => h) (Or.inl ⟨by rfl, ?_⟩) ?_ ?_
                  rotate_left
                  · intro w'
                    go_simp
                    with_reducible rfl
                  rotate_left
                  · simp only [Act.put, List.setIfInBounds_toArray, List.set_cons_zero, List.set_cons_succ, i64_w, i32_w]
                    rfl
                  refine pure_ (i := 6) (N := some 160) (v := ?_) (a' := ?_) #[true, true, true, true, true, false, true, false, false, false, false, false, false, false] rfl rfl (any_of HT_.out (by kernel_rfl)) (fun _ _ _ h => h) (Or.inl ⟨by rfl, ?_⟩) ?_ ?_
                  rotate_left
                  · intro w'
                    go_simp
                    with_reducible rfl
                  rotate_left
                  · simp only [Act.put, List.setIfInBounds_toArray, List.set_cons_zero, List.set_cons_succ, i64_w, i32_w]
                    rfl
                  refine pure_ (i := 7) (N := some 161) (v := ?_) (a' := ?_) #[true, true, true, true, true, false, true, true, false, false, false, false, false, false] rfl rfl (any_of HT_.out (by kernel_rfl)) (fun _ _ _ h => h) (Or.inl ⟨by rfl, ?_⟩) ?_ ?_
                  rotate_left
                  · intro w'
                    go_simp
                    with_reducible rfl
                  rotate_left
                  · simp only [Act.put, List.setIfInBounds_toArray, List.set_cons_zero, List.set_cons_succ, i64_w, i32_w]
                    rfl
                  refine pure_ (i := 8) (N := some 162) (v := ?_) (a' := ?_) #[true, true, true, true, true, false, true, true, true, false, false, false, false, false] rfl rfl (any_of HT_.out (by kernel_rfl)) (fun _ _ _ h => h) (Or.inl ⟨by rfl, ?_⟩) ?_ ?_
                  rotate_left
                  · intro w'
                    go_simp
                    with_reducible rfl
                  rotate_left
                  · simp only [Act.put, List.setIfInBounds_toArray, List.set_cons_zero, List.set_cons_succ, i64_w, i32_w]
                    rfl
                  refine take_ (i := 9) (N := some 163) (v := ?_) (a' := ?_) #[true, true, true, true, true, false, true, true, true, true, false, false, false, false] rfl rfl (take_ofW HT_.out HW_.out (by kernel_rfl)) (fun _ _ _ h => h) (Or.inl ⟨by rfl, ?_⟩) hHeld ?_ ?_
                  rotate_left
                  · intro w' s0
                    go_simp
                    with_reducible rfl
                  rotate_left
                  · simp only [Act.put, List.setIfInBounds_toArray, List.set_cons_zero, List.set_cons_succ, i64_w, i32_w]
                    rfl
                  refine pure_ (i := 10) (N := some 164) (v := ?_) (a' := ?_) #[true, true, true, true, true, false, true, true, true, true, true, false, false, false] rfl rfl (any_of HT_.out (by kernel_rfl)) (fun _ _ _ h => h) (Or.inl ⟨by rfl, ?_⟩) ?_ ?_
                  rotate_left
                  · intro w'
                    go_simp
                    with_reducible rfl
                  rotate_left
                  · simp only [Act.put, List.setIfInBounds_toArray, List.set_cons_zero, List.set_cons_succ, i64_w, i32_w]
                    rfl
                  refine one_ (i := 5) (N := some 159) #[true, true, true, true, true, true, true, true, true, true, true, false, false, false] rfl rfl (one_of HT_.out (by kernel_rfl)) (by decide) (fun K hK => ?_)
                  refine goes_ Try.func10 (by kernel_rfl) rfl #[.pointer (some ⟨g, 0, none⟩)] (by rfl) rfl rfl (by simp only [List.map_toArray, List.map_cons, List.map_nil]; rfl) ?_
                  with_reducible refine ((HLN.out _ (below_then (below_drew (Below.refl _ _)) (Nat.le_refl _) HB17.out))).mono ?_
                  rintro e w' ⟨rfl, rfl⟩
                  refine ⟨_, rfl, ?_⟩
                  refine hK.out _ _ (pw_cell_below HB17.out h0c) (fun hHeld => ?_)
                  clear hK K
                  refine norm_ (a' := ?_) ?_ ?_
                  rotate_left
                  · show Act.put _ (some 159) _ = _
                    simp only [Act.put, List.setIfInBounds_toArray, List.set_cons_zero, List.set_cons_succ, i64_w, i32_w]
                    rfl
                  refine pure_ (i := 11) (N := some 165) (v := ?_) (a' := ?_) #[true, true, true, true, true, true, true, true, true, true, true, true, false, false] rfl rfl (any_of HT_.out (by kernel_rfl)) (fun _ _ _ h => h) (Or.inl ⟨by rfl, ?_⟩) ?_ ?_
                  rotate_left
                  · intro w'
                    go_simp
                    with_reducible rfl
                  rotate_left
                  · simp only [Act.put, List.setIfInBounds_toArray, List.set_cons_zero, List.set_cons_succ, i64_w, i32_w]
                    rfl
                  refine pure_ (i := 12) (N := some 166) (v := ?_) (a' := ?_) #[true, true, true, true, true, true, true, true, true, true, true, true, true, false] rfl rfl (any_of HT_.out (by kernel_rfl)) (fun _ _ _ h => h) (Or.inl ⟨by rfl, ?_⟩) ?_ ?_
                  rotate_left
                  · intro w'
                    go_simp
                    with_reducible rfl
                  rotate_left
                  · simp only [Act.put, List.setIfInBounds_toArray, List.set_cons_zero, List.set_cons_succ, i64_w, i32_w]
                    rfl
                  refine pure_ (i := 13) (N := some 6) (v := ?_) (a' := ?_) #[true, true, true, true, true, true, true, true, true, true, true, true, true, true] rfl rfl (any_of HT_.out (by kernel_rfl)) (fun _ _ _ h => h) (Or.inl ⟨by rfl, ?_⟩) ?_ ?_
                  rotate_left
                  · intro w'
                    go_simp
                    with_reducible rfl
                  rotate_left
                  · simp only [Act.put, List.setIfInBounds_toArray, List.set_cons_zero, List.set_cons_succ, i64_w, i32_w]
                    rfl
                  refine done_ (done_of HT_.out (by kernel_rfl)) ?_
                  go_wp2_with fail
                  go_ret
                  exact ⟨rfl, below_then (below_drew HS16.out.2) HS16.out.2.size HB17.out⟩
end Both
end Go.Proofs.Ytmocpglnoehknaa
