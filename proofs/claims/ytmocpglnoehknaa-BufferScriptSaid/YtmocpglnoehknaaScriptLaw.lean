/- BufferScript: the walk. -/
import Derived.Test.YtmocpglnoehknaaAlike
import Derived.Test.YtmocpglnoehknaaHeavy
import Derived.Deep.Cut
namespace Go.Proofs.Ytmocpglnoehknaa
set_option linter.unusedVariables false
set_option linter.unusedSimpArgs false
open Go.RowKit Go.Proofs.YtmocpglnoehknaaW.PrintWords Go.Proofs.YtmocpglnoehknaaW.PrintLast Go.Proofs.YtmocpglnoehknaaW.PrintMore Go.Proofs.Ytmocpglnoehknaa.QT Go.Proofs.Ytmocpglnoehknaa.QH
open Go.Proofs.Ytmocpglnoehknaa.QS (S79 k79)
open Go.Proofs.Ytmocpglnoehknaa.QR (S54 k54 at_T54 rd_T54)
namespace Both
open Buf (Mp Held Fr Stp OkP)
open Rf (One toMp wrR ent)
/-- What both have is one thing, and small. -/
structure Sm (w wr : World) (g b gr : Nat) (n i ver : Int) (m : Mp) (L : List One) : Prop where
  two : Two wr g b gr m L ver
  v0 : 0 ≤ ver
  v1 : ver ≤ i
  len : (m.length : Int) ≤ i
  bw : ∀ e ∈ m, (Lit.int .i64 e.1.blk).wf = true
  bel : Below w.heap.size w wr
theorem Sm.below {w wr w' : World} {g b gr : Nat} {n i ver : Int} {m : Mp} {L : List One} (h : Sm w wr g b gr n i ver m L) (hb : Below wr.heap.size wr w') : Sm w w' g b gr n i ver m L :=
  ⟨h.two.below hb, h.v0, h.v1, h.len, h.bw, below_then h.bel h.bel.size hb⟩
theorem Sm.up {w wr : World} {g b gr : Nat} {n i ver : Int} {m : Mp} {L : List One} (h : Sm w wr g b gr n i ver m L) : Sm w wr g b gr n (i + 1) ver m L :=
  ⟨h.two, h.v0, by have := h.v1; omega, by have := h.len; omega, h.bw, h.bel⟩
theorem wr_bw {m : Mp} (bw : ∀ e ∈ m, (Lit.int .i64 e.1.blk).wf = true) (blk : Int) (idn : ByteArray) (p : S24) (v : Int) (hk : (Lit.int .i64 blk).wf = true) : ∀ e ∈ Buf.wr m blk idn p v, (Lit.int .i64 e.1.blk).wf = true := by
  have h1 : ∀ e ∈ XM.aput m ⟨blk, idn, p.f0⟩ (⟨p, v⟩ : Held), (Lit.int .i64 e.1.blk).wf = true := by
    intro e he
    rcases XM.mem_aput he with he | rfl
    · exact bw e he
    · exact hk
  unfold Buf.wr
  split
  · exact h1
  · split
    · exact h1
    · exact bw
theorem Sm.wrote {w wr w1 w2 : World} {g b gr : Nat} {n i ver : Int} {m : Mp} {L : List One} (h : Sm w wr g b gr n i ver m L) (blk : Int) (idn : ByteArray) (p : S24) (hk : OkP ⟨blk, idn, p.f0⟩) (h1 : Buf.Is w1 g b (Buf.wr m blk idn p (ver + 1)) (ver + 1)) (h2 : Rf.Is w1 gr L ver) (h3 : Rf.Is w2 gr (wrR blk idn p (ver + 1) L) (ver + 1)) (f : Fr gr gr w1 w2) (hb : Below w.heap.size w w2) :
    Sm w w2 g b gr n (i + 1) (ver + 1) (Buf.wr m blk idn p (ver + 1)) (wrR blk idn p (ver + 1) L) :=
  ⟨h.two.wrote blk idn p hk.2.1 h1 h2 h3 f, by have := h.v0; omega, by have := h.v1; omega, by have h4 := Buf.wr_len m blk idn p (ver + 1); have := h.len; omega, wr_bw h.bw blk idn p (ver + 1) hk.1, hb⟩
theorem Sm.did {w wr w1 w2 : World} {g b gr : Nat} {n i ver : Int} {m : Mp} {L : List One} (h : Sm w wr g b gr n i ver m L) (blk x : Int) (h1 : Buf.Is w1 g b (m.filter (Buf.keepE blk x)) ver) (h2 : Rf.Is w1 gr L ver) (h3 : Rf.Is w2 gr (L.filter (Rf.keepO blk x)) ver) (f : Fr gr gr w1 w2) (hb : Below w.heap.size w w2) :
    Sm w w2 g b gr n (i + 1) ver (m.filter (Buf.keepE blk x)) (L.filter (Rf.keepO blk x)) :=
  ⟨h.two.did blk x h1 h2 h3 f, h.v0, by have := h.v1; omega, by have := List.length_filter_le (Buf.keepE blk x) m; have := h.len; omega, fun e he => h.bw e (List.mem_filter.1 he).1, hb⟩
def boxS (x : Stp) : Array Value := #[.int .i64 x.f0, .int .i64 x.f1, .int .i64 x.f2, .string x.f3, .int .i64 x.f4.f0, .int .u64 x.f4.f1, .int .u64 x.f4.f2]
def Script_r.T15 : Bool × List (List Nat × List Nat) := (true, [([], []), ([], []), ([1], [1]), ([], []), ([3], [3]), ([], []), ([5], [5]), ([0, 2, 4, 6], [0, 2, 4, 6]), ([], []), ([], []), ([9], [9]), ([], []), ([11], [11]), ([], []), ([13], [13]), ([8, 10, 12, 14, 7], [8, 10, 12, 14]), ([7, 15], [7, 15])])
def Script_r.B15 : List Nat := [0, 0, 2, 0, 8, 0, 32, 127, 0, 0, 512, 0, 2048, 0, 8192, 32767, 65535]
theorem Script_r.tab15 : rtab .any (opsOf Try.f7 15) = Script_r.T15 := by kernel_rfl
theorem Script_r.bits15 : waitsOk Script_r.T15.2 Script_r.B15 = true := by kernel_rfl
def Script_r.T18 : Bool × List (List Nat × List Nat) := (true, [([], []), ([], []), ([1], [1]), ([], []), ([3], [3]), ([0, 2, 4], [0, 2, 4]), ([], []), ([], []), ([7], [7]), ([], []), ([9], [9]), ([6, 8, 10, 5], [6, 8, 10]), ([5, 11], [5, 11])])
def Script_r.B18 : List Nat := [0, 0, 2, 0, 8, 31, 0, 0, 128, 0, 512, 2047, 4095]
theorem Script_r.tab18 : rtab .any (opsOf Try.f7 18) = Script_r.T18 := by kernel_rfl
theorem Script_r.bits18 : waitsOk Script_r.T18.2 Script_r.B18 = true := by kernel_rfl
def Script_r.T21 : Bool × List (List Nat × List Nat) := (true, [([], []), ([], []), ([1], [1]), ([0, 2], [0, 2]), ([], []), ([], []), ([5], [5]), ([4, 6, 3], [4, 6]), ([3, 7], [3, 7])])
def Script_r.B21 : List Nat := [0, 0, 2, 7, 0, 0, 32, 127, 255]
theorem Script_r.tab21 : rtab .any (opsOf Try.f7 21) = Script_r.T21 := by kernel_rfl
theorem Script_r.bits21 : waitsOk Script_r.T21.2 Script_r.B21 = true := by kernel_rfl
set_option maxHeartbeats 4000000 in
set_option maxRecDepth 100000 in
theorem script_calls (w : World) (A0 : Option Addr) (c0 : Nat) (l : List Stp) (hC : Kd.C k47 w A0 l.length l) (hc : l.length ≤ c0) (hml : l.length ≤ maxLen) (hwf : ∀ s ∈ l, OkP ⟨s.f1, s.f3, s.f4.f0⟩) :
    Calls Try.prog 7 #[.slice A0 l.length c0] w fun e w' => e = .returned (.bool true) ∧ Below w.heap.size w w' := by
  obtain ⟨rh, hrh, hH⟩ := Buf.heavy_any w A0 c0 l hC hc (by unfold maxLen at hml; omega)
  have HC := Lib.hid hC
  have HH := Lib.hid hH
  have HWF := Lib.hid hwf
  clear hC hH hwf hml
  go_enter Try.func7, Try.ntmps7
  go_wp2_with fail
  with_reducible refine HH.out.mono ?_
  rintro e w1 ⟨rfl, hB1⟩
  have HB1 := Lib.hid hB1
  clear HH hB1
  cases rh with
  | true =>
    go_wp2
    go_ret
    exact ⟨rfl, HB1.out⟩
  | false =>
    have hla := hrh rfl
    clear hrh
    go_wp2_with fail
    with_reducible refine (Buf.new_any _).mono ?_
    rintro e w3 ⟨g, b, rfl, hg, hb, hI, hB3⟩
    have hsz2 := HB1.out.size
    have HGB := Lib.hid (show w.heap.size ≤ g ∧ w.heap.size ≤ b from by omega)
    have HI3 := Lib.hid hI
    have HB3 := Lib.hid (below_then HB1.out HB1.out.size hB3)
    clear hg hb hI hB3 HB1 hsz2
    go_wp2_with ((with_reducible refine gate_dst (N := 13) rfl ?_); refine box_event rfl (N := 13) rfl (cs := #[.slice none 0 0, .int .i64 0]) (t := 45) ?hr ?_; (case hr => first | (go_simp; done) | (go_simp; rfl)); intro gr hgr w4 hbox hb4; have HI4 := Lib.hid (HI3.out.below hb4); have HB4 := Lib.hid (And.intro hgr (And.intro hbox hb4)); clear hgr hbox hb4)
    have hbel4 := below_then HB3.out HB3.out.size HB4.out.2.2
    have HBEL4 := Lib.hid hbel4
    have HRI4 := Lib.hid (show Rf.Is w4 gr [] 0 from ⟨_, HB4.out.2.1, Kd.R_nil _ _ _ _ _⟩)
    have HGR := Lib.hid (show w.heap.size ≤ gr from by have h1 := HB4.out.1; have h2 := HB3.out.size; omega)
    have HS0 := Lib.hid (show Sm w w4 g b gr l.length 0 0 [] [] from ⟨⟨HI4.out, HRI4.out, List.Perm.refl _, by simp, by simp⟩, Int.le_refl _, Int.le_refl _, by simp, by simp, HBEL4.out⟩)
    clear hbel4 HI3 HB3 HI4 HB4 HBEL4 HRI4
    go_loopg [5, 6, 7] l.length (fun gn v5 v6 v7 wr => ∃ (vv bb i ver : Int) (m : Mp) (L : List One), v5 = .int .i64 vv ∧ v6 = .int .i64 bb ∧ v7 = .int .i64 i ∧ Aside0 ((gn : Int) = l.length - i) ∧ Aside0 (0 ≤ i ∧ i ≤ l.length) ∧ Aside0 (Sm w wr g b gr l.length i ver m L))
    case atStart => exact ⟨0, 0, 0, 0, [], [], rfl, rfl, rfl, ⟨by omega⟩, ⟨by omega⟩, ⟨HS0.out⟩⟩
    case round =>
      clear HS0
      obtain ⟨vv, bb, i, ver, m, L, rfl, rfl, rfl, HG, HIB, HR⟩ := hrel
      have hi0 := HIB.out.1
      by_cases hlt : i < l.length
      · obtain ⟨ad, ead, q0, q1, q2, q3, q4, q5, q6⟩ := at_T47 (Kd.C_below HC.out HR.out.bel) i hi0 hlt
        cases ead
        obtain ⟨x, hx⟩ : ∃ x, rd_T47 l i = x := ⟨_, rfl⟩
        have hxm : x ∈ l := by rw [← hx]; exact Buf.rd47_mem hi0 hlt
        rw [hx] at q0 q1 q2 q3 q4 q5 q6
        have HOK := Lib.hid (HWF.out x hxm)
        have hi1 : i ≤ 256 := by omega
        have hwr5 : wrap64 (i + 1) = i + 1 := by unfold wrap64; omega
        obtain ⟨gq, hgq⟩ : ∃ gq, gq = wr.heap.size := ⟨_, rfl⟩
        obtain ⟨X, hX⟩ : ∃ X : World, X = wr.alloc (.cells (boxS x) 47) := ⟨_, rfl⟩
        have hbX : Below wr.heap.size wr X := by rw [hX]; exact below_alloc (Below.refl _ _) _
        have HQX := Lib.hid (show X.heap[gq]? = some (.cells (boxS x) 47 (0, 0)) from by rw [hX, hgq]; exact blk_new _ _)
        have HRX := Lib.hid (HR.out.below hbX)
        have HNE := Lib.hid (show gq ≠ g ∧ gq ≠ b ∧ gq ≠ gr from by
          have h1 := HR.out.two.bi.lt
          have h2 := HR.out.two.ri.lt
          omega)
        have HML := Lib.hid (show m.length ≤ 256 ∧ L.length ≤ 256 ∧ ver ≤ 256 ∧ 0 ≤ ver from by have := HR.out.len; have := HR.out.two.len; have := HR.out.v1; have := HR.out.v0; omega)
        have hX2 := hX
        unfold boxS at hX2
        clear hx hxm hX hbX
        have hk : x.f0 = 0 ∨ x.f0 = 1 ∨ x.f0 = 2 ∨ x.f0 = 3 ∨ x.f0 = 4 ∨ (x.f0 ≠ 0 ∧ x.f0 ≠ 1 ∧ x.f0 ≠ 2 ∧ x.f0 ≠ 3 ∧ x.f0 ≠ 4) := by omega
        have HX2 := Lib.hid (And.intro hX2 hgq)
        clear hX2 hgq
        have b1 : X.cell? ⟨gq, 1, none⟩ = some (.int .i64 x.f1) := (blk_cell HQX.out 1).trans rfl
        have b2 : X.cell? ⟨gq, 2, none⟩ = some (.int .i64 x.f2) := (blk_cell HQX.out 2).trans rfl
        have b3 : X.cell? ⟨gq, 3, none⟩ = some (.string x.f3) := (blk_cell HQX.out 3).trans rfl
        have b4 : X.cell? ⟨gq, 4, none⟩ = some (.int .i64 x.f4.f0) := (blk_cell HQX.out 4).trans rfl
        have b5 : X.cell? ⟨gq, 5, none⟩ = some (.int .u64 x.f4.f1) := (blk_cell HQX.out 5).trans rfl
        have b6 : X.cell? ⟨gq, 6, none⟩ = some (.int .u64 x.f4.f2) := (blk_cell HQX.out 6).trans rfl
        have b0 : X.cell? ⟨gq, 0, none⟩ = some (.int .i64 x.f0) := (blk_cell HQX.out 0).trans rfl
        rcases hk with hk | hk | hk | hk | hk | hk
        · have HWR := Lib.hid (Buf.write_calls X.drew g b m ver HRX.out.two.bi x.f1 x.f3 x.f4 HOK.out HML.out.2.2.2 (by have := HML.out; omega) (by have := HML.out; unfold maxLen; omega))
          have e0 : (x.f0 == 0) = true := by rw [beq_iff_eq]; omega
          clear hk
          have hne : ((ver + 1) != (ver + 1)) = false := by simp
          go_wp2_with fail
          obtain ⟨hX2, hgq⟩ := HX2.out
          rw [← hX2, ← hgq]
          clear hX2 hgq HX2
          refine start_ (n := 17) (S := fun w' => w'.cell? ⟨gq, 1, none⟩ = some (.int .i64 x.f1) ∧ w'.cell? ⟨gq, 3, none⟩ = some (.string x.f3) ∧ w'.cell? ⟨gq, 4, none⟩ = some (.int .i64 x.f4.f0) ∧ w'.cell? ⟨gq, 5, none⟩ = some (.int .u64 x.f4.f1) ∧ w'.cell? ⟨gq, 6, none⟩ = some (.int .u64 x.f4.f2)) (ds := [15]) #[false, false, false, false, false, false, false, false, false, false, false, false, false, false, false, false, false] (by kernel_rfl) rfl rfl ⟨b1, b3, b4, b5, b6⟩ (fun hHeld => ?_)
          refine with_tabW Script_r.tab15 Script_r.bits15 (fun HT_ HW_ => ?_)
          refine pure_ (i := 0) (N := some 30) (v := ?_) (a' := ?_) #[true, false, false, false, false, false, false, false, false, false, false, false, false, false, false, false, false] rfl rfl (any_of HT_.out (by kernel_rfl)) (fun _ _ _ h => h) (Or.inl ⟨by rfl, ?_⟩) ?_ ?_
          rotate_left
          · intro w'
            go_simp
            with_reducible rfl
          rotate_left
          · simp only [Act.put, List.setIfInBounds_toArray, List.set_cons_zero, List.set_cons_succ, i64_w, i32_w]
            rfl
          refine pure_ (i := 1) (N := some 31) (v := ?_) (a' := ?_) #[true, true, false, false, false, false, false, false, false, false, false, false, false, false, false, false, false] rfl rfl (any_of HT_.out (by kernel_rfl)) (fun _ _ _ h => h) (Or.inl ⟨by rfl, ?_⟩) ?_ ?_
          rotate_left
          · intro w'
            go_simp
            with_reducible rfl
          rotate_left
          · simp only [Act.put, List.setIfInBounds_toArray, List.set_cons_zero, List.set_cons_succ, i64_w, i32_w]
            rfl
          refine pure_ (i := 3) (N := some 33) (v := ?_) (a' := ?_) #[true, true, false, true, false, false, false, false, false, false, false, false, false, false, false, false, false] rfl rfl (any_of HT_.out (by kernel_rfl)) (fun _ _ _ h => h) (Or.inl ⟨by rfl, ?_⟩) ?_ ?_
          rotate_left
          · intro w'
            go_simp
            with_reducible rfl
          rotate_left
          · simp only [Act.put, List.setIfInBounds_toArray, List.set_cons_zero, List.set_cons_succ, i64_w, i32_w]
            rfl
          refine pure_ (i := 5) (N := some 35) (v := ?_) (a' := ?_) #[true, true, false, true, false, true, false, false, false, false, false, false, false, false, false, false, false] rfl rfl (any_of HT_.out (by kernel_rfl)) (fun _ _ _ h => h) (Or.inl ⟨by rfl, ?_⟩) ?_ ?_
          rotate_left
          · intro w'
            go_simp
            with_reducible rfl
          rotate_left
          · simp only [Act.put, List.setIfInBounds_toArray, List.set_cons_zero, List.set_cons_succ, i64_w, i32_w]
            rfl
          refine pure_ (i := 8) (N := some 38) (v := ?_) (a' := ?_) #[true, true, false, true, false, true, false, false, true, false, false, false, false, false, false, false, false] rfl rfl (any_of HT_.out (by kernel_rfl)) (fun _ _ _ h => h) (Or.inl ⟨by rfl, ?_⟩) ?_ ?_
          rotate_left
          · intro w'
            go_simp
            with_reducible rfl
          rotate_left
          · simp only [Act.put, List.setIfInBounds_toArray, List.set_cons_zero, List.set_cons_succ, i64_w, i32_w]
            rfl
          refine pure_ (i := 9) (N := some 39) (v := ?_) (a' := ?_) #[true, true, false, true, false, true, false, false, true, true, false, false, false, false, false, false, false] rfl rfl (any_of HT_.out (by kernel_rfl)) (fun _ _ _ h => h) (Or.inl ⟨by rfl, ?_⟩) ?_ ?_
          rotate_left
          · intro w'
            go_simp
            with_reducible rfl
          rotate_left
          · simp only [Act.put, List.setIfInBounds_toArray, List.set_cons_zero, List.set_cons_succ, i64_w, i32_w]
            rfl
          refine pure_ (i := 11) (N := some 41) (v := ?_) (a' := ?_) #[true, true, false, true, false, true, false, false, true, true, false, true, false, false, false, false, false] rfl rfl (any_of HT_.out (by kernel_rfl)) (fun _ _ _ h => h) (Or.inl ⟨by rfl, ?_⟩) ?_ ?_
          rotate_left
          · intro w'
            go_simp
            with_reducible rfl
          rotate_left
          · simp only [Act.put, List.setIfInBounds_toArray, List.set_cons_zero, List.set_cons_succ, i64_w, i32_w]
            rfl
          refine pure_ (i := 13) (N := some 43) (v := ?_) (a' := ?_) #[true, true, false, true, false, true, false, false, true, true, false, true, false, true, false, false, false] rfl rfl (any_of HT_.out (by kernel_rfl)) (fun _ _ _ h => h) (Or.inl ⟨by rfl, ?_⟩) ?_ ?_
          rotate_left
          · intro w'
            go_simp
            with_reducible rfl
          rotate_left
          · simp only [Act.put, List.setIfInBounds_toArray, List.set_cons_zero, List.set_cons_succ, i64_w, i32_w]
            rfl
          refine take_ (i := 2) (N := some 32) (v := ?_) (a' := ?_) #[true, true, true, true, false, true, false, false, true, true, false, true, false, true, false, false, false] rfl rfl (take_ofW HT_.out HW_.out (by kernel_rfl)) (fun _ _ _ h => h) (Or.inl ⟨by rfl, ?_⟩) hHeld ?_ ?_
          rotate_left
          · rintro w' ⟨s0, s1, s2, s3, s4⟩
            go_simp
            with_reducible rfl
          rotate_left
          · simp only [Act.put, List.setIfInBounds_toArray, List.set_cons_zero, List.set_cons_succ, i64_w, i32_w]
            rfl
          refine take_ (i := 4) (N := some 34) (v := ?_) (a' := ?_) #[true, true, true, true, true, true, false, false, true, true, false, true, false, true, false, false, false] rfl rfl (take_ofW HT_.out HW_.out (by kernel_rfl)) (fun _ _ _ h => h) (Or.inl ⟨by rfl, ?_⟩) hHeld ?_ ?_
          rotate_left
          · rintro w' ⟨s0, s1, s2, s3, s4⟩
            go_simp
            with_reducible rfl
          rotate_left
          · simp only [Act.put, List.setIfInBounds_toArray, List.set_cons_zero, List.set_cons_succ, i64_w, i32_w]
            rfl
          refine take_ (i := 6) (N := some 36) (v := ?_) (a' := ?_) #[true, true, true, true, true, true, true, false, true, true, false, true, false, true, false, false, false] rfl rfl (take_ofW HT_.out HW_.out (by kernel_rfl)) (fun _ _ _ h => h) (Or.inl ⟨by rfl, ?_⟩) hHeld ?_ ?_
          rotate_left
          · rintro w' ⟨s0, s1, s2, s3, s4⟩
            go_simp
            with_reducible rfl
          rotate_left
          · simp only [Act.put, List.setIfInBounds_toArray, List.set_cons_zero, List.set_cons_succ, i64_w, i32_w]
            rfl
          refine take_ (i := 10) (N := some 40) (v := ?_) (a' := ?_) #[true, true, true, true, true, true, true, false, true, true, true, true, false, true, false, false, false] rfl rfl (take_ofW HT_.out HW_.out (by kernel_rfl)) (fun _ _ _ h => h) (Or.inl ⟨by rfl, ?_⟩) hHeld ?_ ?_
          rotate_left
          · rintro w' ⟨s0, s1, s2, s3, s4⟩
            go_simp
            with_reducible rfl
          rotate_left
          · simp only [Act.put, List.setIfInBounds_toArray, List.set_cons_zero, List.set_cons_succ, i64_w, i32_w]
            rfl
          refine take_ (i := 12) (N := some 42) (v := ?_) (a' := ?_) #[true, true, true, true, true, true, true, false, true, true, true, true, true, true, false, false, false] rfl rfl (take_ofW HT_.out HW_.out (by kernel_rfl)) (fun _ _ _ h => h) (Or.inl ⟨by rfl, ?_⟩) hHeld ?_ ?_
          rotate_left
          · rintro w' ⟨s0, s1, s2, s3, s4⟩
            go_simp
            with_reducible rfl
          rotate_left
          · simp only [Act.put, List.setIfInBounds_toArray, List.set_cons_zero, List.set_cons_succ, i64_w, i32_w]
            rfl
          refine take_ (i := 14) (N := some 44) (v := ?_) (a' := ?_) #[true, true, true, true, true, true, true, false, true, true, true, true, true, true, true, false, false] rfl rfl (take_ofW HT_.out HW_.out (by kernel_rfl)) (fun _ _ _ h => h) (Or.inl ⟨by rfl, ?_⟩) hHeld ?_ ?_
          rotate_left
          · rintro w' ⟨s0, s1, s2, s3, s4⟩
            go_simp
            with_reducible rfl
          rotate_left
          · simp only [Act.put, List.setIfInBounds_toArray, List.set_cons_zero, List.set_cons_succ, i64_w, i32_w]
            rfl
          refine one_ (i := 7) (N := some 37) #[true, true, true, true, true, true, true, true, true, true, true, true, true, true, true, false, false] rfl rfl (one_of HT_.out (by kernel_rfl)) (by decide) (fun K hK => ?_)
          refine goes_ Try.func9 (by kernel_rfl) rfl #[.pointer (some ⟨g, 0, none⟩), .int .i64 x.f1, .string x.f3, .agg #[.int .i64 x.f4.f0, .int .u64 x.f4.f1, .int .u64 x.f4.f2]] (by rfl) rfl rfl (by simp only [List.map_toArray, List.map_cons, List.map_nil]; rfl) ?_
          with_reducible refine (HWR.out).mono ?_
          rintro e w9 ⟨rfl, hI9, hF9⟩
          refine ⟨_, rfl, ?_⟩
          have HQ9 := Lib.hid ((hF9.block gq (blk_lt (w := X) HQX.out) HNE.out.1 HNE.out.2.1).trans HQX.out)
          have HR9 := Lib.hid (ri_other (w := X.drew) HRX.out.two.bi (HRX.out.two.ri.below (below_drew (Below.refl _ _))) hF9)
          have HB9 := Lib.hid (Fr.below (below_drew HRX.out.bel) hF9 HRX.out.bel.size HGB.out.1 HGB.out.2)
          have HWQ := Lib.hid (Rf.write_calls w9 gr L ver HR9.out (by have := HML.out; omega) HML.out.2.2.2 (by have := HML.out; omega) x.f1 x.f3 x.f4)
          have HI9 := Lib.hid hI9
          clear hI9 hF9
          refine hK.out _ _ ⟨(blk_cell HQ9.out 1).trans rfl, (blk_cell HQ9.out 3).trans rfl, (blk_cell HQ9.out 4).trans rfl, (blk_cell HQ9.out 5).trans rfl, (blk_cell HQ9.out 6).trans rfl⟩ (fun hHeld => ?_)
          clear hK K
          refine norm_ (a' := ?_) ?_ ?_
          rotate_left
          · show Act.put _ (some 37) _ = _
            simp only [Act.put, List.setIfInBounds_toArray, List.set_cons_zero, List.set_cons_succ, i64_w, i32_w]
            rfl
          refine last_ (i := 15) (N := some 45) #[true, true, true, true, true, true, true, true, true, true, true, true, true, true, true, true, false] rfl rfl (one_of HT_.out (by kernel_rfl)) (by decide) (fun K hK => ?_)
          refine goes_ Try.func17 (by kernel_rfl) rfl #[.pointer (some ⟨gr, 0, none⟩), .int .i64 x.f1, .string x.f3, .agg #[.int .i64 x.f4.f0, .int .u64 x.f4.f1, .int .u64 x.f4.f2]] (by rfl) rfl rfl (by simp only [List.map_toArray, List.map_cons, List.map_nil]; rfl) ?_
          with_reducible refine (HWQ.out).mono ?_
          rintro e w10 ⟨rfl, hI10, hF10⟩
          refine ⟨_, rfl, ?_⟩
          have HI10 := Lib.hid hI10
          have HF10 := Lib.hid hF10
          clear hI10 hF10
          refine hK.out _ _ ?_
          clear hK K
          refine norm_ (a' := ?_) ?_ ?_
          rotate_left
          · show Act.put _ (some 45) _ = _
            simp only [Act.put, List.setIfInBounds_toArray, List.set_cons_zero, List.set_cons_succ, i64_w, i32_w]
            rfl
          refine pure_ (i := 16) (N := some 46) (v := ?_) (a' := ?_) #[true, true, true, true, true, true, true, true, true, true, true, true, true, true, true, true, true] rfl rfl (any_of HT_.out (by kernel_rfl)) (fun _ _ _ h => h) (Or.inl ⟨by rfl, ?_⟩) ?_ ?_
          rotate_left
          · intro w'
            go_simp
            with_reducible rfl
          rotate_left
          · simp only [Act.put, List.setIfInBounds_toArray, List.set_cons_zero, List.set_cons_succ, i64_w, i32_w]
            rfl
          refine done_ (done_of HT_.out (by kernel_rfl)) ?_
          obtain ⟨wE, hwE⟩ : ∃ wE, wE = w10 := ⟨_, rfl⟩
          obtain ⟨mE, hmE⟩ : ∃ mE, mE = Buf.wr m x.f1 x.f3 x.f4 (ver + 1) := ⟨_, rfl⟩
          obtain ⟨LE, hLE⟩ : ∃ LE, LE = wrR x.f1 x.f3 x.f4 (ver + 1) L := ⟨_, rfl⟩
          obtain ⟨verE, hvE⟩ : ∃ verE, verE = ver + 1 := ⟨_, rfl⟩
          have HTE := Lib.hid (show Sm w wE g b gr l.length (i + 1) verE mE LE from by rw [hwE, hmE, hLE, hvE]; exact HRX.out.wrote x.f1 x.f3 x.f4 HOK.out HI9.out HR9.out HI10.out HF10.out (Fr.below HB9.out HF10.out HB9.out.size HGR.out HGR.out))
          have HQE := Lib.hid (show wE.heap[gq]? = some (.cells (boxS x) 47 (0, 0)) from by rw [hwE]; exact (HF10.out.block gq (blk_lt HQ9.out) HNE.out.2.2 HNE.out.2.2).trans HQ9.out)
          rw [← hwE]
          clear hwE hmE hLE hvE
          clear q0 q1 q2 q3 q4 q5 q6 b0 b1 b2 b3 b4 b5 b6
          have hAL := alike_calls wE g b gr mE LE verE HTE.out.two (by have := HTE.out.len; omega) HTE.out.bw x.f3
          have HAL := Lib.hid hAL
          have t3 : wE.cell? ⟨gq, 3, none⟩ = some (.string x.f3) := (blk_cell HQE.out 3).trans rfl
          clear hAL
          go_wp2_with fail
          with_reducible refine HAL.out.mono ?_
          rintro e wF ⟨rfl, hBF⟩
          have HTF := Lib.hid (HTE.out.below hBF)
          clear hBF HAL t3
          go_wp2_with fail
          go_roundg (l.length - i - 1).toNat
          case measure => have := HG.out; omega
          case rel => exact ⟨vv, bb, i + 1, _, _, _, rfl, rfl, by first | rfl | (simp [hwr5]; done) | rw [hwr5], ⟨by have := HG.out; omega⟩, ⟨by omega⟩, ⟨HTF.out⟩⟩
        · have HDN := Lib.hid (Buf.done_calls X.drew g b m ver HRX.out.two.bi (by have := HML.out; omega) x.f1 x.f2)
          have e0 : (x.f0 == 0) = false := by rw [beq_eq_false_iff_ne]; omega
          have e1 : (x.f0 == 1) = true := by rw [beq_iff_eq]; omega
          clear hk
          have hne : (((m.length : Int) - ((m.filter (Buf.keepE x.f1 x.f2)).length : Nat)) != ((m.length : Int) - ((m.filter (Buf.keepE x.f1 x.f2)).length : Nat))) = false := by simp
          go_wp2_with fail
          obtain ⟨hX2, hgq⟩ := HX2.out
          rw [← hX2, ← hgq]
          clear hX2 hgq HX2
          refine start_ (n := 13) (S := fun w' => w'.cell? ⟨gq, 1, none⟩ = some (.int .i64 x.f1) ∧ w'.cell? ⟨gq, 2, none⟩ = some (.int .i64 x.f2)) (ds := [11]) #[false, false, false, false, false, false, false, false, false, false, false, false, false] (by kernel_rfl) rfl rfl ⟨b1, b2⟩ (fun hHeld => ?_)
          refine with_tabW Script_r.tab18 Script_r.bits18 (fun HT_ HW_ => ?_)
          refine pure_ (i := 0) (N := some 49) (v := ?_) (a' := ?_) #[true, false, false, false, false, false, false, false, false, false, false, false, false] rfl rfl (any_of HT_.out (by kernel_rfl)) (fun _ _ _ h => h) (Or.inl ⟨by rfl, ?_⟩) ?_ ?_
          rotate_left
          · intro w'
            go_simp
            with_reducible rfl
          rotate_left
          · simp only [Act.put, List.setIfInBounds_toArray, List.set_cons_zero, List.set_cons_succ, i64_w, i32_w]
            rfl
          refine pure_ (i := 1) (N := some 50) (v := ?_) (a' := ?_) #[true, true, false, false, false, false, false, false, false, false, false, false, false] rfl rfl (any_of HT_.out (by kernel_rfl)) (fun _ _ _ h => h) (Or.inl ⟨by rfl, ?_⟩) ?_ ?_
          rotate_left
          · intro w'
            go_simp
            with_reducible rfl
          rotate_left
          · simp only [Act.put, List.setIfInBounds_toArray, List.set_cons_zero, List.set_cons_succ, i64_w, i32_w]
            rfl
          refine pure_ (i := 3) (N := some 52) (v := ?_) (a' := ?_) #[true, true, false, true, false, false, false, false, false, false, false, false, false] rfl rfl (any_of HT_.out (by kernel_rfl)) (fun _ _ _ h => h) (Or.inl ⟨by rfl, ?_⟩) ?_ ?_
          rotate_left
          · intro w'
            go_simp
            with_reducible rfl
          rotate_left
          · simp only [Act.put, List.setIfInBounds_toArray, List.set_cons_zero, List.set_cons_succ, i64_w, i32_w]
            rfl
          refine pure_ (i := 6) (N := some 55) (v := ?_) (a' := ?_) #[true, true, false, true, false, false, true, false, false, false, false, false, false] rfl rfl (any_of HT_.out (by kernel_rfl)) (fun _ _ _ h => h) (Or.inl ⟨by rfl, ?_⟩) ?_ ?_
          rotate_left
          · intro w'
            go_simp
            with_reducible rfl
          rotate_left
          · simp only [Act.put, List.setIfInBounds_toArray, List.set_cons_zero, List.set_cons_succ, i64_w, i32_w]
            rfl
          refine pure_ (i := 7) (N := some 56) (v := ?_) (a' := ?_) #[true, true, false, true, false, false, true, true, false, false, false, false, false] rfl rfl (any_of HT_.out (by kernel_rfl)) (fun _ _ _ h => h) (Or.inl ⟨by rfl, ?_⟩) ?_ ?_
          rotate_left
          · intro w'
            go_simp
            with_reducible rfl
          rotate_left
          · simp only [Act.put, List.setIfInBounds_toArray, List.set_cons_zero, List.set_cons_succ, i64_w, i32_w]
            rfl
          refine pure_ (i := 9) (N := some 58) (v := ?_) (a' := ?_) #[true, true, false, true, false, false, true, true, false, true, false, false, false] rfl rfl (any_of HT_.out (by kernel_rfl)) (fun _ _ _ h => h) (Or.inl ⟨by rfl, ?_⟩) ?_ ?_
          rotate_left
          · intro w'
            go_simp
            with_reducible rfl
          rotate_left
          · simp only [Act.put, List.setIfInBounds_toArray, List.set_cons_zero, List.set_cons_succ, i64_w, i32_w]
            rfl
          refine take_ (i := 2) (N := some 51) (v := ?_) (a' := ?_) #[true, true, true, true, false, false, true, true, false, true, false, false, false] rfl rfl (take_ofW HT_.out HW_.out (by kernel_rfl)) (fun _ _ _ h => h) (Or.inl ⟨by rfl, ?_⟩) hHeld ?_ ?_
          rotate_left
          · rintro w' ⟨s0, s1⟩
            go_simp
            with_reducible rfl
          rotate_left
          · simp only [Act.put, List.setIfInBounds_toArray, List.set_cons_zero, List.set_cons_succ, i64_w, i32_w]
            rfl
          refine take_ (i := 4) (N := some 53) (v := ?_) (a' := ?_) #[true, true, true, true, true, false, true, true, false, true, false, false, false] rfl rfl (take_ofW HT_.out HW_.out (by kernel_rfl)) (fun _ _ _ h => h) (Or.inl ⟨by rfl, ?_⟩) hHeld ?_ ?_
          rotate_left
          · rintro w' ⟨s0, s1⟩
            go_simp
            with_reducible rfl
          rotate_left
          · simp only [Act.put, List.setIfInBounds_toArray, List.set_cons_zero, List.set_cons_succ, i64_w, i32_w]
            rfl
          refine take_ (i := 8) (N := some 57) (v := ?_) (a' := ?_) #[true, true, true, true, true, false, true, true, true, true, false, false, false] rfl rfl (take_ofW HT_.out HW_.out (by kernel_rfl)) (fun _ _ _ h => h) (Or.inl ⟨by rfl, ?_⟩) hHeld ?_ ?_
          rotate_left
          · rintro w' ⟨s0, s1⟩
            go_simp
            with_reducible rfl
          rotate_left
          · simp only [Act.put, List.setIfInBounds_toArray, List.set_cons_zero, List.set_cons_succ, i64_w, i32_w]
            rfl
          refine take_ (i := 10) (N := some 59) (v := ?_) (a' := ?_) #[true, true, true, true, true, false, true, true, true, true, true, false, false] rfl rfl (take_ofW HT_.out HW_.out (by kernel_rfl)) (fun _ _ _ h => h) (Or.inl ⟨by rfl, ?_⟩) hHeld ?_ ?_
          rotate_left
          · rintro w' ⟨s0, s1⟩
            go_simp
            with_reducible rfl
          rotate_left
          · simp only [Act.put, List.setIfInBounds_toArray, List.set_cons_zero, List.set_cons_succ, i64_w, i32_w]
            rfl
          refine one_ (i := 5) (N := some 54) #[true, true, true, true, true, true, true, true, true, true, true, false, false] rfl rfl (one_of HT_.out (by kernel_rfl)) (by decide) (fun K hK => ?_)
          refine goes_ Try.func21 (by kernel_rfl) rfl #[.pointer (some ⟨g, 0, none⟩), .int .i64 x.f1, .int .i64 x.f2] (by rfl) rfl rfl (by simp only [List.map_toArray, List.map_cons, List.map_nil]; rfl) ?_
          with_reducible refine (HDN.out).mono ?_
          rintro e w9 ⟨rfl, hI9, hF9⟩
          refine ⟨_, rfl, ?_⟩
          have HQ9 := Lib.hid ((hF9.block gq (blk_lt (w := X) HQX.out) HNE.out.1 HNE.out.2.1).trans HQX.out)
          have HR9 := Lib.hid (ri_other (w := X.drew) HRX.out.two.bi (HRX.out.two.ri.below (below_drew (Below.refl _ _))) hF9)
          have HB9 := Lib.hid (Fr.below (below_drew HRX.out.bel) hF9 HRX.out.bel.size HGB.out.1 HGB.out.2)
          have hDR := Rf.done_calls w9 gr L ver HR9.out (by have := HML.out; omega) x.f1 x.f2
          rw [HRX.out.two.len, ← done_same HRX.out.two.pm x.f1 x.f2] at hDR
          have HDR := Lib.hid hDR
          have HI9 := Lib.hid hI9
          clear hI9 hF9 hDR
          refine hK.out _ _ ⟨(blk_cell HQ9.out 1).trans rfl, (blk_cell HQ9.out 2).trans rfl⟩ (fun hHeld => ?_)
          clear hK K
          refine norm_ (a' := ?_) ?_ ?_
          rotate_left
          · show Act.put _ (some 54) _ = _
            simp only [Act.put, List.setIfInBounds_toArray, List.set_cons_zero, List.set_cons_succ, i64_w, i32_w]
            rfl
          refine last_ (i := 11) (N := some 60) #[true, true, true, true, true, true, true, true, true, true, true, true, false] rfl rfl (one_of HT_.out (by kernel_rfl)) (by decide) (fun K hK => ?_)
          refine goes_ Try.func22 (by kernel_rfl) rfl #[.pointer (some ⟨gr, 0, none⟩), .int .i64 x.f1, .int .i64 x.f2] (by rfl) rfl rfl (by simp only [List.map_toArray, List.map_cons, List.map_nil]; rfl) ?_
          with_reducible refine (HDR.out).mono ?_
          rintro e w10 ⟨rfl, hI10, hF10⟩
          refine ⟨_, rfl, ?_⟩
          have HI10 := Lib.hid hI10
          have HF10 := Lib.hid hF10
          clear hI10 hF10
          refine hK.out _ _ ?_
          clear hK K
          refine norm_ (a' := ?_) ?_ ?_
          rotate_left
          · show Act.put _ (some 60) _ = _
            simp only [Act.put, List.setIfInBounds_toArray, List.set_cons_zero, List.set_cons_succ, i64_w, i32_w]
            rfl
          refine pure_ (i := 12) (N := some 61) (v := ?_) (a' := ?_) #[true, true, true, true, true, true, true, true, true, true, true, true, true] rfl rfl (any_of HT_.out (by kernel_rfl)) (fun _ _ _ h => h) (Or.inl ⟨by rfl, ?_⟩) ?_ ?_
          rotate_left
          · intro w'
            go_simp
            with_reducible rfl
          rotate_left
          · simp only [Act.put, List.setIfInBounds_toArray, List.set_cons_zero, List.set_cons_succ, i64_w, i32_w]
            rfl
          refine done_ (done_of HT_.out (by kernel_rfl)) ?_
          obtain ⟨wE, hwE⟩ : ∃ wE, wE = w10 := ⟨_, rfl⟩
          obtain ⟨mE, hmE⟩ : ∃ mE, mE = m.filter (Buf.keepE x.f1 x.f2) := ⟨_, rfl⟩
          obtain ⟨LE, hLE⟩ : ∃ LE, LE = L.filter (Rf.keepO x.f1 x.f2) := ⟨_, rfl⟩
          obtain ⟨verE, hvE⟩ : ∃ verE, verE = ver := ⟨_, rfl⟩
          have HTE := Lib.hid (show Sm w wE g b gr l.length (i + 1) verE mE LE from by rw [hwE, hmE, hLE, hvE]; exact HRX.out.did x.f1 x.f2 HI9.out HR9.out HI10.out HF10.out (Fr.below HB9.out HF10.out HB9.out.size HGR.out HGR.out))
          have HQE := Lib.hid (show wE.heap[gq]? = some (.cells (boxS x) 47 (0, 0)) from by rw [hwE]; exact (HF10.out.block gq (blk_lt HQ9.out) HNE.out.2.2 HNE.out.2.2).trans HQ9.out)
          rw [← hwE]
          clear hwE hmE hLE hvE
          clear q0 q1 q2 q3 q4 q5 q6 b0 b1 b2 b3 b4 b5 b6
          have hAL := alike_calls wE g b gr mE LE verE HTE.out.two (by have := HTE.out.len; omega) HTE.out.bw x.f3
          have HAL := Lib.hid hAL
          have t3 : wE.cell? ⟨gq, 3, none⟩ = some (.string x.f3) := (blk_cell HQE.out 3).trans rfl
          clear hAL
          go_wp2_with fail
          with_reducible refine HAL.out.mono ?_
          rintro e wF ⟨rfl, hBF⟩
          have HTF := Lib.hid (HTE.out.below hBF)
          clear hBF HAL t3
          go_wp2_with fail
          go_roundg (l.length - i - 1).toNat
          case measure => have := HG.out; omega
          case rel => exact ⟨vv, bb, i + 1, _, _, _, rfl, rfl, by first | rfl | (simp [hwr5]; done) | rw [hwr5], ⟨by have := HG.out; omega⟩, ⟨by omega⟩, ⟨HTF.out⟩⟩
        · have HDN := Lib.hid (Buf.drop_calls X.drew g b m ver HRX.out.two.bi (by have := HML.out; omega) x.f1)
          have e0 : (x.f0 == 0) = false := by rw [beq_eq_false_iff_ne]; omega
          have e1 : (x.f0 == 1) = false := by rw [beq_eq_false_iff_ne]; omega
          have e2 : (x.f0 == 2) = true := by rw [beq_iff_eq]; omega
          clear hk
          have hne : (((m.length : Int) - ((m.filter (Buf.keepE x.f1 ver)).length : Nat)) != ((m.length : Int) - ((m.filter (Buf.keepE x.f1 ver)).length : Nat))) = false := by simp
          go_wp2_with fail
          obtain ⟨hX2, hgq⟩ := HX2.out
          rw [← hX2, ← hgq]
          clear hX2 hgq HX2
          refine start_ (n := 9) (S := fun w' => w'.cell? ⟨gq, 1, none⟩ = some (.int .i64 x.f1)) (ds := [7]) #[false, false, false, false, false, false, false, false, false] (by kernel_rfl) rfl rfl (b1) (fun hHeld => ?_)
          refine with_tabW Script_r.tab21 Script_r.bits21 (fun HT_ HW_ => ?_)
          refine pure_ (i := 0) (N := some 64) (v := ?_) (a' := ?_) #[true, false, false, false, false, false, false, false, false] rfl rfl (any_of HT_.out (by kernel_rfl)) (fun _ _ _ h => h) (Or.inl ⟨by rfl, ?_⟩) ?_ ?_
          rotate_left
          · intro w'
            go_simp
            with_reducible rfl
          rotate_left
          · simp only [Act.put, List.setIfInBounds_toArray, List.set_cons_zero, List.set_cons_succ, i64_w, i32_w]
            rfl
          refine pure_ (i := 1) (N := some 65) (v := ?_) (a' := ?_) #[true, true, false, false, false, false, false, false, false] rfl rfl (any_of HT_.out (by kernel_rfl)) (fun _ _ _ h => h) (Or.inl ⟨by rfl, ?_⟩) ?_ ?_
          rotate_left
          · intro w'
            go_simp
            with_reducible rfl
          rotate_left
          · simp only [Act.put, List.setIfInBounds_toArray, List.set_cons_zero, List.set_cons_succ, i64_w, i32_w]
            rfl
          refine pure_ (i := 4) (N := some 68) (v := ?_) (a' := ?_) #[true, true, false, false, true, false, false, false, false] rfl rfl (any_of HT_.out (by kernel_rfl)) (fun _ _ _ h => h) (Or.inl ⟨by rfl, ?_⟩) ?_ ?_
          rotate_left
          · intro w'
            go_simp
            with_reducible rfl
          rotate_left
          · simp only [Act.put, List.setIfInBounds_toArray, List.set_cons_zero, List.set_cons_succ, i64_w, i32_w]
            rfl
          refine pure_ (i := 5) (N := some 69) (v := ?_) (a' := ?_) #[true, true, false, false, true, true, false, false, false] rfl rfl (any_of HT_.out (by kernel_rfl)) (fun _ _ _ h => h) (Or.inl ⟨by rfl, ?_⟩) ?_ ?_
          rotate_left
          · intro w'
            go_simp
            with_reducible rfl
          rotate_left
          · simp only [Act.put, List.setIfInBounds_toArray, List.set_cons_zero, List.set_cons_succ, i64_w, i32_w]
            rfl
          refine take_ (i := 2) (N := some 66) (v := ?_) (a' := ?_) #[true, true, true, false, true, true, false, false, false] rfl rfl (take_ofW HT_.out HW_.out (by kernel_rfl)) (fun _ _ _ h => h) (Or.inl ⟨by rfl, ?_⟩) hHeld ?_ ?_
          rotate_left
          · intro w' s0
            go_simp
            with_reducible rfl
          rotate_left
          · simp only [Act.put, List.setIfInBounds_toArray, List.set_cons_zero, List.set_cons_succ, i64_w, i32_w]
            rfl
          refine take_ (i := 6) (N := some 70) (v := ?_) (a' := ?_) #[true, true, true, false, true, true, true, false, false] rfl rfl (take_ofW HT_.out HW_.out (by kernel_rfl)) (fun _ _ _ h => h) (Or.inl ⟨by rfl, ?_⟩) hHeld ?_ ?_
          rotate_left
          · intro w' s0
            go_simp
            with_reducible rfl
          rotate_left
          · simp only [Act.put, List.setIfInBounds_toArray, List.set_cons_zero, List.set_cons_succ, i64_w, i32_w]
            rfl
          refine one_ (i := 3) (N := some 67) #[true, true, true, true, true, true, true, false, false] rfl rfl (one_of HT_.out (by kernel_rfl)) (by decide) (fun K hK => ?_)
          refine goes_ Try.func23 (by kernel_rfl) rfl #[.pointer (some ⟨g, 0, none⟩), .int .i64 x.f1] (by rfl) rfl rfl (by simp only [List.map_toArray, List.map_cons, List.map_nil]; rfl) ?_
          with_reducible refine (HDN.out).mono ?_
          rintro e w9 ⟨rfl, hI9, hF9⟩
          refine ⟨_, rfl, ?_⟩
          have HQ9 := Lib.hid ((hF9.block gq (blk_lt (w := X) HQX.out) HNE.out.1 HNE.out.2.1).trans HQX.out)
          have HR9 := Lib.hid (ri_other (w := X.drew) HRX.out.two.bi (HRX.out.two.ri.below (below_drew (Below.refl _ _))) hF9)
          have HB9 := Lib.hid (Fr.below (below_drew HRX.out.bel) hF9 HRX.out.bel.size HGB.out.1 HGB.out.2)
          have hDR := Rf.drop_calls w9 gr L ver HR9.out (by have := HML.out; omega) x.f1
          rw [HRX.out.two.len, ← done_same HRX.out.two.pm x.f1 ver] at hDR
          have HDR := Lib.hid hDR
          have HI9 := Lib.hid hI9
          clear hI9 hF9 hDR
          refine hK.out _ _ ((blk_cell HQ9.out 1).trans rfl) (fun hHeld => ?_)
          clear hK K
          refine norm_ (a' := ?_) ?_ ?_
          rotate_left
          · show Act.put _ (some 67) _ = _
            simp only [Act.put, List.setIfInBounds_toArray, List.set_cons_zero, List.set_cons_succ, i64_w, i32_w]
            rfl
          refine last_ (i := 7) (N := some 71) #[true, true, true, true, true, true, true, true, false] rfl rfl (one_of HT_.out (by kernel_rfl)) (by decide) (fun K hK => ?_)
          refine goes_ Try.func24 (by kernel_rfl) rfl #[.pointer (some ⟨gr, 0, none⟩), .int .i64 x.f1] (by rfl) rfl rfl (by simp only [List.map_toArray, List.map_cons, List.map_nil]; rfl) ?_
          with_reducible refine (HDR.out).mono ?_
          rintro e w10 ⟨rfl, hI10, hF10⟩
          refine ⟨_, rfl, ?_⟩
          have HI10 := Lib.hid hI10
          have HF10 := Lib.hid hF10
          clear hI10 hF10
          refine hK.out _ _ ?_
          clear hK K
          refine norm_ (a' := ?_) ?_ ?_
          rotate_left
          · show Act.put _ (some 71) _ = _
            simp only [Act.put, List.setIfInBounds_toArray, List.set_cons_zero, List.set_cons_succ, i64_w, i32_w]
            rfl
          refine pure_ (i := 8) (N := some 72) (v := ?_) (a' := ?_) #[true, true, true, true, true, true, true, true, true] rfl rfl (any_of HT_.out (by kernel_rfl)) (fun _ _ _ h => h) (Or.inl ⟨by rfl, ?_⟩) ?_ ?_
          rotate_left
          · intro w'
            go_simp
            with_reducible rfl
          rotate_left
          · simp only [Act.put, List.setIfInBounds_toArray, List.set_cons_zero, List.set_cons_succ, i64_w, i32_w]
            rfl
          refine done_ (done_of HT_.out (by kernel_rfl)) ?_
          obtain ⟨wE, hwE⟩ : ∃ wE, wE = w10 := ⟨_, rfl⟩
          obtain ⟨mE, hmE⟩ : ∃ mE, mE = m.filter (Buf.keepE x.f1 ver) := ⟨_, rfl⟩
          obtain ⟨LE, hLE⟩ : ∃ LE, LE = L.filter (Rf.keepO x.f1 ver) := ⟨_, rfl⟩
          obtain ⟨verE, hvE⟩ : ∃ verE, verE = ver := ⟨_, rfl⟩
          have HTE := Lib.hid (show Sm w wE g b gr l.length (i + 1) verE mE LE from by rw [hwE, hmE, hLE, hvE]; exact HRX.out.did x.f1 ver HI9.out HR9.out HI10.out HF10.out (Fr.below HB9.out HF10.out HB9.out.size HGR.out HGR.out))
          have HQE := Lib.hid (show wE.heap[gq]? = some (.cells (boxS x) 47 (0, 0)) from by rw [hwE]; exact (HF10.out.block gq (blk_lt HQ9.out) HNE.out.2.2 HNE.out.2.2).trans HQ9.out)
          rw [← hwE]
          clear hwE hmE hLE hvE
          clear q0 q1 q2 q3 q4 q5 q6 b0 b1 b2 b3 b4 b5 b6
          have hAL := alike_calls wE g b gr mE LE verE HTE.out.two (by have := HTE.out.len; omega) HTE.out.bw x.f3
          have HAL := Lib.hid hAL
          have t3 : wE.cell? ⟨gq, 3, none⟩ = some (.string x.f3) := (blk_cell HQE.out 3).trans rfl
          clear hAL
          go_wp2_with fail
          with_reducible refine HAL.out.mono ?_
          rintro e wF ⟨rfl, hBF⟩
          have HTF := Lib.hid (HTE.out.below hBF)
          clear hBF HAL t3
          go_wp2_with fail
          go_roundg (l.length - i - 1).toNat
          case measure => have := HG.out; omega
          case rel => exact ⟨vv, bb, i + 1, _, _, _, rfl, rfl, by first | rfl | (simp [hwr5]; done) | rw [hwr5], ⟨by have := HG.out; omega⟩, ⟨by omega⟩, ⟨HTF.out⟩⟩
        · have HTK := Lib.hid (Tk.take_calls X g b m ver HRX.out.two.bi x.f1 (by have := HML.out; omega) HRX.out.two.sz)
          have e0 : (x.f0 == 0) = false := by rw [beq_eq_false_iff_ne]; omega
          have e1 : (x.f0 == 1) = false := by rw [beq_eq_false_iff_ne]; omega
          have e2 : (x.f0 == 2) = false := by rw [beq_eq_false_iff_ne]; omega
          have e3 : (x.f0 == 3) = true := by rw [beq_iff_eq]; omega
          clear hk
          go_wp2_with fail
          obtain ⟨hX2, hgq⟩ := HX2.out
          rw [← hX2, ← hgq]
          clear hX2 hgq HX2
          with_reducible refine HTK.out.mono ?_
          rintro e w9 ⟨v9, l9, rfl, hT9, hV9, hB9⟩
          have HB9 := Lib.hid hB9
          have HQ9 := Lib.hid (blk_below HQX.out hB9)
          have s1 : w9.cell? ⟨gq, 1, none⟩ = some (.int .i64 x.f1) := (blk_cell HQ9.out 1).trans rfl
          clear hT9 hV9 hB9
          obtain ⟨wE, hwE⟩ : ∃ wE, wE = w9 := ⟨_, rfl⟩
          obtain ⟨mE, hmE⟩ : ∃ mE, mE = m := ⟨_, rfl⟩
          obtain ⟨LE, hLE⟩ : ∃ LE, LE = L := ⟨_, rfl⟩
          obtain ⟨verE, hvE⟩ : ∃ verE, verE = ver := ⟨_, rfl⟩
          have HTE := Lib.hid (show Sm w wE g b gr l.length (i + 1) verE mE LE from by rw [hwE, hmE, hLE, hvE]; exact (HRX.out.below HB9.out).up)
          have HQE := Lib.hid (show wE.heap[gq]? = some (.cells (boxS x) 47 (0, 0)) from by rw [hwE]; exact HQ9.out)
          rw [← hwE]
          clear hwE hmE hLE hvE
          clear q0 q1 q2 q3 q4 q5 q6 b0 b1 b2 b3 b4 b5 b6
          have s1E : wE.cell? ⟨gq, 1, none⟩ = some (.int .i64 x.f1) := (blk_cell HQE.out 1).trans rfl
          clear s1
          have hAL := alike_calls wE g b gr mE LE verE HTE.out.two (by have := HTE.out.len; omega) HTE.out.bw x.f3
          have HAL := Lib.hid hAL
          have t3 : wE.cell? ⟨gq, 3, none⟩ = some (.string x.f3) := (blk_cell HQE.out 3).trans rfl
          clear hAL
          go_wp2_with fail
          with_reducible refine HAL.out.mono ?_
          rintro e wF ⟨rfl, hBF⟩
          have HTF := Lib.hid (HTE.out.below hBF)
          clear hBF HAL t3
          go_wp2_with fail
          go_roundg (l.length - i - 1).toNat
          case measure => have := HG.out; omega
          case rel => exact ⟨_, _, i + 1, _, _, _, rfl, rfl, by first | rfl | (simp [hwr5]; done) | rw [hwr5], ⟨by have := HG.out; omega⟩, ⟨by omega⟩, ⟨HTF.out⟩⟩
        · have HDN := Lib.hid (Buf.done_calls X g b m ver HRX.out.two.bi (by have := HML.out; omega) bb vv)
          have e0 : (x.f0 == 0) = false := by rw [beq_eq_false_iff_ne]; omega
          have e1 : (x.f0 == 1) = false := by rw [beq_eq_false_iff_ne]; omega
          have e2 : (x.f0 == 2) = false := by rw [beq_eq_false_iff_ne]; omega
          have e3 : (x.f0 == 3) = false := by rw [beq_eq_false_iff_ne]; omega
          have e4 : (x.f0 == 4) = true := by rw [beq_iff_eq]; omega
          clear hk
          have hne : (((m.length : Int) - ((m.filter (Buf.keepE bb vv)).length : Nat)) != ((m.length : Int) - ((m.filter (Buf.keepE bb vv)).length : Nat))) = false := by simp
          go_wp2_with fail
          obtain ⟨hX2, hgq⟩ := HX2.out
          rw [← hX2, ← hgq]
          clear hX2 hgq HX2
          with_reducible refine HDN.out.mono ?_
          rintro e w9 ⟨rfl, hI9, hF9⟩
          have HQ9 := Lib.hid ((hF9.block gq (blk_lt HQX.out) HNE.out.1 HNE.out.2.1).trans HQX.out)
          have HR9 := Lib.hid (ri_other HRX.out.two.bi HRX.out.two.ri hF9)
          have HB9 := Lib.hid (Fr.below HRX.out.bel hF9 HRX.out.bel.size HGB.out.1 HGB.out.2)
          have hDR := Rf.done_calls w9 gr L ver HR9.out (by have := HML.out; omega) bb vv
          rw [HRX.out.two.len, ← done_same HRX.out.two.pm bb vv] at hDR
          have HDR := Lib.hid hDR
          have HI9 := Lib.hid hI9
          clear hI9 hF9 hDR
          go_wp2_with fail
          with_reducible refine HDR.out.mono ?_
          rintro e w10 ⟨rfl, hI10, hF10⟩
          have HI10 := Lib.hid hI10
          have HF10 := Lib.hid hF10
          clear hI10 hF10
          obtain ⟨wE, hwE⟩ : ∃ wE, wE = w10 := ⟨_, rfl⟩
          obtain ⟨mE, hmE⟩ : ∃ mE, mE = m.filter (Buf.keepE bb vv) := ⟨_, rfl⟩
          obtain ⟨LE, hLE⟩ : ∃ LE, LE = L.filter (Rf.keepO bb vv) := ⟨_, rfl⟩
          obtain ⟨verE, hvE⟩ : ∃ verE, verE = ver := ⟨_, rfl⟩
          have HTE := Lib.hid (show Sm w wE g b gr l.length (i + 1) verE mE LE from by rw [hwE, hmE, hLE, hvE]; exact HRX.out.did bb vv HI9.out HR9.out HI10.out HF10.out (Fr.below HB9.out HF10.out HB9.out.size HGR.out HGR.out))
          have HQE := Lib.hid (show wE.heap[gq]? = some (.cells (boxS x) 47 (0, 0)) from by rw [hwE]; exact (HF10.out.block gq (blk_lt HQ9.out) HNE.out.2.2 HNE.out.2.2).trans HQ9.out)
          rw [← hwE]
          clear hwE hmE hLE hvE
          clear q0 q1 q2 q3 q4 q5 q6 b0 b1 b2 b3 b4 b5 b6
          have hAL := alike_calls wE g b gr mE LE verE HTE.out.two (by have := HTE.out.len; omega) HTE.out.bw x.f3
          have HAL := Lib.hid hAL
          have t3 : wE.cell? ⟨gq, 3, none⟩ = some (.string x.f3) := (blk_cell HQE.out 3).trans rfl
          clear hAL
          go_wp2_with fail
          with_reducible refine HAL.out.mono ?_
          rintro e wF ⟨rfl, hBF⟩
          have HTF := Lib.hid (HTE.out.below hBF)
          clear hBF HAL t3
          go_wp2_with fail
          go_roundg (l.length - i - 1).toNat
          case measure => have := HG.out; omega
          case rel => exact ⟨vv, bb, i + 1, _, _, _, rfl, rfl, by first | rfl | (simp [hwr5]; done) | rw [hwr5], ⟨by have := HG.out; omega⟩, ⟨by omega⟩, ⟨HTF.out⟩⟩
        · have e0 : (x.f0 == 0) = false := by rw [beq_eq_false_iff_ne]; omega
          have e1 : (x.f0 == 1) = false := by rw [beq_eq_false_iff_ne]; omega
          have e2 : (x.f0 == 2) = false := by rw [beq_eq_false_iff_ne]; omega
          have e3 : (x.f0 == 3) = false := by rw [beq_eq_false_iff_ne]; omega
          have e4 : (x.f0 == 4) = false := by rw [beq_eq_false_iff_ne]; omega
          clear hk
          go_wp2_with fail
          obtain ⟨hX2, hgq⟩ := HX2.out
          rw [← hX2, ← hgq]
          clear hX2 hgq HX2
          obtain ⟨wE, hwE⟩ : ∃ wE, wE = X := ⟨_, rfl⟩
          obtain ⟨mE, hmE⟩ : ∃ mE, mE = m := ⟨_, rfl⟩
          obtain ⟨LE, hLE⟩ : ∃ LE, LE = L := ⟨_, rfl⟩
          obtain ⟨verE, hvE⟩ : ∃ verE, verE = ver := ⟨_, rfl⟩
          have HTE := Lib.hid (show Sm w wE g b gr l.length (i + 1) verE mE LE from by rw [hwE, hmE, hLE, hvE]; exact HRX.out.up)
          have HQE := Lib.hid (show wE.heap[gq]? = some (.cells (boxS x) 47 (0, 0)) from by rw [hwE]; exact HQX.out)
          rw [← hwE]
          clear hwE hmE hLE hvE
          clear q0 q1 q2 q3 q4 q5 q6 b0 b1 b2 b3 b4 b5 b6
          have hAL := alike_calls wE g b gr mE LE verE HTE.out.two (by have := HTE.out.len; omega) HTE.out.bw x.f3
          have HAL := Lib.hid hAL
          have t3 : wE.cell? ⟨gq, 3, none⟩ = some (.string x.f3) := (blk_cell HQE.out 3).trans rfl
          clear hAL
          with_reducible refine HAL.out.mono ?_
          rintro e wF ⟨rfl, hBF⟩
          have HTF := Lib.hid (HTE.out.below hBF)
          clear hBF HAL t3
          go_wp2_with fail
          go_roundg (l.length - i - 1).toNat
          case measure => have := HG.out; omega
          case rel => exact ⟨vv, bb, i + 1, _, _, _, rfl, rfl, by first | rfl | (simp [hwr5]; done) | rw [hwr5], ⟨by have := HG.out; omega⟩, ⟨by omega⟩, ⟨HTF.out⟩⟩
      · have hge : ¬ i < l.length := hlt
        have HBF := Lib.hid HR.out.bel
        clear HR
        go_wp2
        go_ret
        exact ⟨rfl, HBF.out⟩
end Both
end Go.Proofs.Ytmocpglnoehknaa
