/- alike: both buffers tell the same. -/
import Derived.Test.YtmocpglnoehknaaRefRead
import Derived.Test.YtmocpglnoehknaaViewLaw
import Derived.Deep.Cut
namespace Go.Proofs.Ytmocpglnoehknaa
set_option linter.unusedVariables false
set_option linter.unusedSimpArgs false
open Go.RowKit Go.Proofs.YtmocpglnoehknaaW.PrintWords Go.Proofs.YtmocpglnoehknaaW.PrintLast Go.Proofs.YtmocpglnoehknaaW.PrintMore Go.Proofs.Ytmocpglnoehknaa.QT
open Go.Proofs.Ytmocpglnoehknaa.QS (S79 k79)
open Go.Proofs.Ytmocpglnoehknaa.QR (S54 k54 at_T54 rd_T54)
namespace Both
open Buf (Mp Held Fr)
open Rf (One toMp wrR ent)
def Alike_r.T3 : Bool × List (List Nat × List Nat) := (true, [([], []), ([0], [0]), ([], []), ([2], [2]), ([3], [3]), ([4], [4]), ([5], [5]), ([1, 6], [1, 6]), ([7, 1], [7]), ([8], [8]), ([8], [8]), ([10, 8, 8], [8, 10]), ([9, 11, 11, 8], [8, 9, 11]), ([12, 8], [8, 12]), ([8, 13], [8, 13]), ([14, 12], [14]), ([15], [15]), ([15], [15]), ([15], [15]), ([16, 17, 18, 15, 15], [15, 16, 17, 18]), ([15], [15]), ([15], [15]), ([15], [15]), ([20, 21, 22, 19, 15], [15, 20, 21, 22]), ([19, 23, 23, 15], [15, 19, 23]), ([24, 15], [15, 24]), ([15, 25], [15, 25])])
def Alike_r.B3 : List Nat := [0, 1, 0, 4, 12, 28, 60, 127, 255, 511, 511, 1535, 4095, 8191, 16383, 32767, 65535, 65535, 65535, 524287, 65535, 65535, 65535, 8388607, 16777215, 33554431, 67108863]
theorem Alike_r.tab3 : rtab .any (opsOf Try.f25 3) = Alike_r.T3 := by kernel_rfl
theorem Alike_r.bits3 : waitsOk Alike_r.T3.2 Alike_r.B3 = true := by kernel_rfl
set_option maxHeartbeats 4000000 in
set_option maxRecDepth 100000 in
theorem alike_calls (w : World) (g b gr : Nat) (m : Mp) (L : List One) (v : Int) (h : Two w g b gr m L v) (hm : m.length ≤ 100000) (hbw : ∀ e ∈ m, (Lit.int .i64 e.1.blk).wf = true) (idn : ByteArray) :
    Calls Try.prog 25 #[.pointer (some ⟨g, 0, none⟩), .pointer (some ⟨gr, 0, none⟩), .string idn] w fun e w' => e = .returned (.bool true) ∧ Below w.heap.size w w' := by
  have hL : L.length ≤ 100000 := by rw [h.len]; exact hm
  have HT := Lib.hid h
  have HBW := Lib.hid hbw
  clear h hbw
  go_enter Try.func25, Try.ntmps25
  go_wp2_with fail
  obtain ⟨gq, hgq⟩ : ∃ gq, gq = w.heap.size := ⟨_, rfl⟩
  obtain ⟨X, hX⟩ : ∃ X : World, X = w.alloc (.cells #[.int .i64 (-9223372036854775808), .int .i64 9223372036854775807] 32) := ⟨_, rfl⟩
  have hx6 : Below w.heap.size w X := by rw [hX]; exact below_alloc (Below.refl _ _) _
  have HBX := Lib.hid (show X.heap[gq]? = some (.cells #[.int .i64 (-9223372036854775808), .int .i64 9223372036854775807] 32 (0, 0)) from by rw [hX, hgq]; exact blk_new _ _)
  have HTX := Lib.hid (HT.out.below hx6)
  have HX6 := Lib.hid hx6
  have HBC := Lib.hid (Buf.blocks_calls X g b m v HTX.out.bi (by omega) HBW.out)
  rw [← hX, ← hgq]
  clear hX hgq hx6 HT HBW
  with_reducible refine HBC.out.mono ?_
  rintro e w2 ⟨v8, ns, rfl, hs, hd, hmem, hR8, hB2⟩
  have HNS := Lib.hid (Rf.blocks_same HTX.out.pm hs hd hmem)
  have HR8 := Lib.hid hR8
  have HT2 := Lib.hid (HTX.out.below hB2)
  have HX2 := Lib.hid (blk_below HBX.out hB2)
  have HW2 := Lib.hid (below_then HX6.out HX6.out.size hB2)
  have hnl : ns.length ≤ 100000 := by
    have h1 := Tk.nodup_len (m := m.map (·.1.blk)) hd (fun n hn => by obtain ⟨e, he, h⟩ := (hmem n).1 hn; exact List.mem_map.2 ⟨e, he, h⟩)
    rw [List.length_map] at h1
    omega
  clear hs hd hmem hR8 hB2 HBC HTX HBX HX6
  obtain ⟨v54, hv54, hR54⟩ := HT2.out.ri.blk
  obtain ⟨A54, c54, rfl⟩ := Kd.R_slice hR54
  have c0r : w2.cell? ⟨gr, 0, none⟩ = some (.slice A54 L.length c54) := (blk_cell hv54 0).trans rfl
  have d0 : w2.cell? ⟨gq, 0, none⟩ = some (.int .i64 (-9223372036854775808)) := (blk_cell HX2.out 0).trans rfl
  have d1 : w2.cell? ⟨gq, 1, none⟩ = some (.int .i64 9223372036854775807) := (blk_cell HX2.out 1).trans rfl
  have hLn : ∀ W : World, Below w2.heap.size w2 W → Calls Try.prog 10 #[.pointer (some ⟨g, 0, none⟩)] W fun e w' => e = .returned (.int .i64 m.length) ∧ W = w' := fun W hW => Buf.len_calls W g b m v (HT2.out.bi.below hW)
  have HLN := Lib.hid hLn
  have hRb := fun (W : World) (hW : Below w2.heap.size w2 W) => Rf.rblocks_calls W gr L v (HT2.out.ri.below hW) hL
  rw [← HNS.out] at hRb
  have HRB := Lib.hid hRb
  have HRD := Lib.hid (fun (W : World) (hW : Below w2.heap.size w2 W) => Buf.read_calls W g b m v (HT2.out.bi.below hW) idn (-9223372036854775808) 9223372036854775807 (by omega))
  have hRr := fun (W : World) (hW : Below w2.heap.size w2 W) => Rf.rread_calls W gr L v (HT2.out.ri.below hW) hL idn (-9223372036854775808) 9223372036854775807
  rw [← Rf.read_same HT2.out.pm idn] at hRr
  have HRR := Lib.hid hRr
  have hne1 : ((m.length : Int) != (L.length : Int)) = false := by have := HT2.out.len; simp; omega
  have HVL := Lib.hid (show (Vw.cut (Vw.view (Buf.pts idn m)) (-9223372036854775808) 9223372036854775807).length ≤ 1099511627776 from by
    have h1 := Vw.cut_len (Vw.view (Buf.pts idn m)) (-9223372036854775808) 9223372036854775807
    have h2 := Vw.view_len (Buf.pts idn m)
    have h3 := Buf.pts_len idn m
    omega)
  clear hv54 hR54 hLn hRb hRr
  go_wp2_with fail
  refine start_ (n := 27) (S := fun w' => w'.cell? ⟨gr, 0, none⟩ = some (.slice A54 L.length c54) ∧ w'.cell? ⟨gq, 0, none⟩ = some (.int .i64 (-9223372036854775808)) ∧ w'.cell? ⟨gq, 1, none⟩ = some (.int .i64 9223372036854775807)) (ds := []) #[false, false, false, false, false, false, false, false, false, false, false, false, false, false, false, false, false, false, false, false, false, false, false, false, false, false, false] (by kernel_rfl) rfl rfl ⟨c0r, d0, d1⟩ (fun hHeld => ?_)
  refine with_tabW Alike_r.tab3 Alike_r.bits3 (fun HT_ HW_ => ?_)
  refine pure_ (i := 0) (N := some 17) (v := ?_) (a' := ?_) #[true, false, false, false, false, false, false, false, false, false, false, false, false, false, false, false, false, false, false, false, false, false, false, false, false, false, false] rfl rfl (any_of HT_.out (by kernel_rfl)) (fun _ _ _ h => h) (Or.inl ⟨by rfl, ?_⟩) ?_ ?_
  rotate_left
  · intro w'
    go_simp
    with_reducible rfl
  rotate_left
  · simp only [Act.put, List.setIfInBounds_toArray, List.set_cons_zero, List.set_cons_succ, i64_w, i32_w]
    rfl
  refine pure_ (i := 2) (N := some 19) (v := ?_) (a' := ?_) #[true, false, true, false, false, false, false, false, false, false, false, false, false, false, false, false, false, false, false, false, false, false, false, false, false, false, false] rfl rfl (any_of HT_.out (by kernel_rfl)) (fun _ _ _ h => h) (Or.inl ⟨by rfl, ?_⟩) ?_ ?_
  rotate_left
  · intro w'
    go_simp
    with_reducible rfl
  rotate_left
  · simp only [Act.put, List.setIfInBounds_toArray, List.set_cons_zero, List.set_cons_succ, i64_w, i32_w]
    rfl
  refine pure_ (i := 3) (N := some 20) (v := ?_) (a' := ?_) #[true, false, true, true, false, false, false, false, false, false, false, false, false, false, false, false, false, false, false, false, false, false, false, false, false, false, false] rfl rfl (any_of HT_.out (by kernel_rfl)) (fun _ _ _ h => h) (Or.inl ⟨by rfl, ?_⟩) ?_ ?_
  rotate_left
  · intro w'
    go_simp
    with_reducible rfl
  rotate_left
  · simp only [Act.put, List.setIfInBounds_toArray, List.set_cons_zero, List.set_cons_succ, i64_w, i32_w]
    rfl
  refine pure_ (i := 4) (N := some 21) (v := ?_) (a' := ?_) #[true, false, true, true, true, false, false, false, false, false, false, false, false, false, false, false, false, false, false, false, false, false, false, false, false, false, false] rfl rfl (any_of HT_.out (by kernel_rfl)) (fun _ _ _ h => h) (Or.inl ⟨by rfl, ?_⟩) ?_ ?_
  rotate_left
  · intro w'
    go_simp
    with_reducible rfl
  rotate_left
  · simp only [Act.put, List.setIfInBounds_toArray, List.set_cons_zero, List.set_cons_succ, i64_w, i32_w]
    rfl
  refine take_ (i := 5) (N := some 22) (v := ?_) (a' := ?_) #[true, false, true, true, true, true, false, false, false, false, false, false, false, false, false, false, false, false, false, false, false, false, false, false, false, false, false] rfl rfl (take_ofW HT_.out HW_.out (by kernel_rfl)) (fun _ _ _ h => h) (Or.inl ⟨by rfl, ?_⟩) hHeld ?_ ?_
  rotate_left
  · rintro w' ⟨s0, s1, s2⟩
    go_simp
    with_reducible rfl
  rotate_left
  · simp only [Act.put, List.setIfInBounds_toArray, List.set_cons_zero, List.set_cons_succ, i64_w, i32_w]
    rfl
  refine pure_ (i := 6) (N := some 23) (v := ?_) (a' := ?_) #[true, false, true, true, true, true, true, false, false, false, false, false, false, false, false, false, false, false, false, false, false, false, false, false, false, false, false] rfl rfl (any_of HT_.out (by kernel_rfl)) (fun _ _ _ h => h) (Or.inl ⟨by rfl, ?_⟩) ?_ ?_
  rotate_left
  · intro w'
    go_simp
    with_reducible rfl
  rotate_left
  · simp only [Act.put, List.setIfInBounds_toArray, List.set_cons_zero, List.set_cons_succ, i64_w, i32_w]
    rfl
  refine one_ (i := 1) (N := some 18) #[true, true, true, true, true, true, true, false, false, false, false, false, false, false, false, false, false, false, false, false, false, false, false, false, false, false, false] rfl rfl (one_of HT_.out (by kernel_rfl)) (by decide) (fun K hK => ?_)
  refine goes_ Try.func10 (by kernel_rfl) rfl #[.pointer (some ⟨g, 0, none⟩)] (by rfl) rfl rfl (by simp only [List.map_toArray, List.map_cons, List.map_nil]; rfl) ?_
  with_reducible refine ((HLN.out _ (below_drew (Below.refl _ _)))).mono ?_
  rintro e w' ⟨rfl, rfl⟩
  refine ⟨_, rfl, ?_⟩
  refine hK.out _ _ ⟨c0r, d0, d1⟩ (fun hHeld => ?_)
  clear hK K
  refine norm_ (a' := ?_) ?_ ?_
  rotate_left
  · show Act.put _ (some 18) _ = _
    simp only [Act.put, List.setIfInBounds_toArray, List.set_cons_zero, List.set_cons_succ, i64_w, i32_w]
    rfl
  refine pure_ (i := 7) (N := some 24) (v := ?_) (a' := ?_) #[true, true, true, true, true, true, true, true, false, false, false, false, false, false, false, false, false, false, false, false, false, false, false, false, false, false, false] rfl rfl (any_of HT_.out (by kernel_rfl)) (fun _ _ _ h => h) (Or.inl ⟨by rfl, ?_⟩) ?_ ?_
  rotate_left
  · intro w'
    go_simp
    with_reducible rfl
  rotate_left
  · simp only [Act.put, List.setIfInBounds_toArray, List.set_cons_zero, List.set_cons_succ, i64_w, i32_w]
    rfl
  refine pure_ (i := 8) (N := some 25) (v := ?_) (a' := ?_) #[true, true, true, true, true, true, true, true, true, false, false, false, false, false, false, false, false, false, false, false, false, false, false, false, false, false, false] rfl rfl (any_of HT_.out (by kernel_rfl)) (fun _ _ _ h => h) (Or.inl ⟨by rfl, ?_⟩) ?_ ?_
  rotate_left
  · intro w'
    go_simp
    with_reducible rfl
  rotate_left
  · simp only [Act.put, List.setIfInBounds_toArray, List.set_cons_zero, List.set_cons_succ, i64_w, i32_w]
    rfl
  refine pure_ (i := 9) (N := some 26) (v := ?_) (a' := ?_) #[true, true, true, true, true, true, true, true, true, true, false, false, false, false, false, false, false, false, false, false, false, false, false, false, false, false, false] rfl rfl (any_of HT_.out (by kernel_rfl)) (fun _ _ _ h => h) (Or.inl ⟨by rfl, ?_⟩) ?_ ?_
  rotate_left
  · intro w'
    go_simp
    with_reducible rfl
  rotate_left
  · simp only [Act.put, List.setIfInBounds_toArray, List.set_cons_zero, List.set_cons_succ, i64_w, i32_w]
    rfl
  refine pure_ (i := 10) (N := some 27) (v := ?_) (a' := ?_) #[true, true, true, true, true, true, true, true, true, true, true, false, false, false, false, false, false, false, false, false, false, false, false, false, false, false, false] rfl rfl (any_of HT_.out (by kernel_rfl)) (fun _ _ _ h => h) (Or.inl ⟨by rfl, ?_⟩) ?_ ?_
  rotate_left
  · intro w'
    go_simp
    with_reducible rfl
  rotate_left
  · simp only [Act.put, List.setIfInBounds_toArray, List.set_cons_zero, List.set_cons_succ, i64_w, i32_w]
    rfl
  refine one_ (i := 11) (N := some 28) #[true, true, true, true, true, true, true, true, true, true, true, true, false, false, false, false, false, false, false, false, false, false, false, false, false, false, false] rfl rfl (one_of HT_.out (by kernel_rfl)) (by decide) (fun K hK => ?_)
  refine goes_ Try.func40 (by kernel_rfl) rfl #[.pointer (some ⟨gr, 0, none⟩)] (by rfl) rfl rfl (by simp only [List.map_toArray, List.map_cons, List.map_nil]; rfl) ?_
  with_reducible refine ((HRB.out _ (below_drew (Below.refl _ _)))).mono ?_
  rintro e w20 ⟨v20, rfl, hR20, hB20⟩
  refine ⟨_, rfl, ?_⟩
  have HR20 := Lib.hid hR20
  have HC20 := Lib.hid (show Below w2.heap.size w2 w20 from below_then (below_drew (Below.refl _ _)) (Nat.le_refl _) hB20)
  clear hR20 hB20
  refine hK.out _ _ ⟨pw_cell_below HC20.out c0r, pw_cell_below HC20.out d0, pw_cell_below HC20.out d1⟩ (fun hHeld => ?_)
  clear hK K
  refine norm_ (a' := ?_) ?_ ?_
  rotate_left
  · show Act.put _ (some 28) _ = _
    simp only [Act.put, List.setIfInBounds_toArray, List.set_cons_zero, List.set_cons_succ, i64_w, i32_w]
    rfl
  refine one_ (i := 12) (N := some 29) #[true, true, true, true, true, true, true, true, true, true, true, true, true, false, false, false, false, false, false, false, false, false, false, false, false, false, false] rfl rfl (one_of HT_.out (by kernel_rfl)) (by decide) (fun K hK => ?_)
  refine goes_ Try.func39 (by kernel_rfl) rfl #[v8, v20] (by rfl) rfl rfl (by simp only [List.map_toArray, List.map_cons, List.map_nil]; rfl) ?_
  with_reducible refine ((Rf.sameI_any (Kd.R_below HR8.out HC20.out) HR20.out (by omega))).mono ?_
  rintro e w21 ⟨rfl, hB21⟩
  refine ⟨_, rfl, ?_⟩
  have HC21 := Lib.hid (below_then HC20.out HC20.out.size hB21)
  clear hB21
  refine hK.out _ _ ⟨pw_cell_below HC21.out c0r, pw_cell_below HC21.out d0, pw_cell_below HC21.out d1⟩ (fun hHeld => ?_)
  clear hK K
  refine norm_ (a' := ?_) ?_ ?_
  rotate_left
  · show Act.put _ (some 29) _ = _
    simp only [Act.put, List.setIfInBounds_toArray, List.set_cons_zero, List.set_cons_succ, i64_w, i32_w]
    rfl
  refine pure_ (i := 13) (N := some 30) (v := ?_) (a' := ?_) #[true, true, true, true, true, true, true, true, true, true, true, true, true, true, false, false, false, false, false, false, false, false, false, false, false, false, false] rfl rfl (any_of HT_.out (by kernel_rfl)) (fun _ _ _ h => h) (Or.inl ⟨by rfl, ?_⟩) ?_ ?_
  rotate_left
  · intro w'
    go_simp
    with_reducible rfl
  rotate_left
  · simp only [Act.put, List.setIfInBounds_toArray, List.set_cons_zero, List.set_cons_succ, i64_w, i32_w]
    rfl
  refine pure_ (i := 14) (N := some 31) (v := ?_) (a' := ?_) #[true, true, true, true, true, true, true, true, true, true, true, true, true, true, true, false, false, false, false, false, false, false, false, false, false, false, false] rfl rfl (any_of HT_.out (by kernel_rfl)) (fun _ _ _ h => h) (Or.inl ⟨by rfl, ?_⟩) ?_ ?_
  rotate_left
  · intro w'
    go_simp
    with_reducible rfl
  rotate_left
  · simp only [Act.put, List.setIfInBounds_toArray, List.set_cons_zero, List.set_cons_succ, i64_w, i32_w]
    rfl
  refine pure_ (i := 15) (N := some 32) (v := ?_) (a' := ?_) #[true, true, true, true, true, true, true, true, true, true, true, true, true, true, true, true, false, false, false, false, false, false, false, false, false, false, false] rfl rfl (any_of HT_.out (by kernel_rfl)) (fun _ _ _ h => h) (Or.inl ⟨by rfl, ?_⟩) ?_ ?_
  rotate_left
  · intro w'
    go_simp
    with_reducible rfl
  rotate_left
  · simp only [Act.put, List.setIfInBounds_toArray, List.set_cons_zero, List.set_cons_succ, i64_w, i32_w]
    rfl
  refine pure_ (i := 16) (N := some 33) (v := ?_) (a' := ?_) #[true, true, true, true, true, true, true, true, true, true, true, true, true, true, true, true, true, false, false, false, false, false, false, false, false, false, false] rfl rfl (any_of HT_.out (by kernel_rfl)) (fun _ _ _ h => h) (Or.inl ⟨by rfl, ?_⟩) ?_ ?_
  rotate_left
  · intro w'
    go_simp
    with_reducible rfl
  rotate_left
  · simp only [Act.put, List.setIfInBounds_toArray, List.set_cons_zero, List.set_cons_succ, i64_w, i32_w]
    rfl
  refine pure_ (i := 17) (N := some 34) (v := ?_) (a' := ?_) #[true, true, true, true, true, true, true, true, true, true, true, true, true, true, true, true, true, true, false, false, false, false, false, false, false, false, false] rfl rfl (any_of HT_.out (by kernel_rfl)) (fun _ _ _ h => h) (Or.inl ⟨by rfl, ?_⟩) ?_ ?_
  rotate_left
  · intro w'
    go_simp
    with_reducible rfl
  rotate_left
  · simp only [Act.put, List.setIfInBounds_toArray, List.set_cons_zero, List.set_cons_succ, i64_w, i32_w]
    rfl
  refine pure_ (i := 20) (N := some 37) (v := ?_) (a' := ?_) #[true, true, true, true, true, true, true, true, true, true, true, true, true, true, true, true, true, true, false, false, true, false, false, false, false, false, false] rfl rfl (any_of HT_.out (by kernel_rfl)) (fun _ _ _ h => h) (Or.inl ⟨by rfl, ?_⟩) ?_ ?_
  rotate_left
  · intro w'
    go_simp
    with_reducible rfl
  rotate_left
  · simp only [Act.put, List.setIfInBounds_toArray, List.set_cons_zero, List.set_cons_succ, i64_w, i32_w]
    rfl
  refine pure_ (i := 21) (N := some 38) (v := ?_) (a' := ?_) #[true, true, true, true, true, true, true, true, true, true, true, true, true, true, true, true, true, true, false, false, true, true, false, false, false, false, false] rfl rfl (any_of HT_.out (by kernel_rfl)) (fun _ _ _ h => h) (Or.inl ⟨by rfl, ?_⟩) ?_ ?_
  rotate_left
  · intro w'
    go_simp
    with_reducible rfl
  rotate_left
  · simp only [Act.put, List.setIfInBounds_toArray, List.set_cons_zero, List.set_cons_succ, i64_w, i32_w]
    rfl
  refine take_ (i := 18) (N := some 35) (v := ?_) (a' := ?_) #[true, true, true, true, true, true, true, true, true, true, true, true, true, true, true, true, true, true, true, false, true, true, false, false, false, false, false] rfl rfl (take_ofW HT_.out HW_.out (by kernel_rfl)) (fun _ _ _ h => h) (Or.inl ⟨by rfl, ?_⟩) hHeld ?_ ?_
  rotate_left
  · rintro w' ⟨s0, s1, s2⟩
    go_simp
    with_reducible rfl
  rotate_left
  · simp only [Act.put, List.setIfInBounds_toArray, List.set_cons_zero, List.set_cons_succ, i64_w, i32_w]
    rfl
  refine take_ (i := 22) (N := some 39) (v := ?_) (a' := ?_) #[true, true, true, true, true, true, true, true, true, true, true, true, true, true, true, true, true, true, true, false, true, true, true, false, false, false, false] rfl rfl (take_ofW HT_.out HW_.out (by kernel_rfl)) (fun _ _ _ h => h) (Or.inl ⟨by rfl, ?_⟩) hHeld ?_ ?_
  rotate_left
  · rintro w' ⟨s0, s1, s2⟩
    go_simp
    with_reducible rfl
  rotate_left
  · simp only [Act.put, List.setIfInBounds_toArray, List.set_cons_zero, List.set_cons_succ, i64_w, i32_w]
    rfl
  refine one_ (i := 19) (N := some 36) #[true, true, true, true, true, true, true, true, true, true, true, true, true, true, true, true, true, true, true, true, true, true, true, false, false, false, false] rfl rfl (one_of HT_.out (by kernel_rfl)) (by decide) (fun K hK => ?_)
  refine goes_ Try.func11 (by kernel_rfl) rfl #[.pointer (some ⟨g, 0, none⟩), .string idn, .agg #[.int .i64 (-9223372036854775808), .int .i64 9223372036854775807]] (by rfl) rfl rfl (by simp only [List.map_toArray, List.map_cons, List.map_nil]; rfl) ?_
  with_reducible refine ((HRD.out _ HC21.out)).mono ?_
  rintro e w22 ⟨v22, rfl, hR22, hB22⟩
  refine ⟨_, rfl, ?_⟩
  have HR22 := Lib.hid hR22
  have HC22 := Lib.hid (below_then HC21.out HC21.out.size hB22)
  clear hR22 hB22
  refine hK.out _ _ ⟨pw_cell_below HC22.out c0r, pw_cell_below HC22.out d0, pw_cell_below HC22.out d1⟩ (fun hHeld => ?_)
  clear hK K
  refine norm_ (a' := ?_) ?_ ?_
  rotate_left
  · show Act.put _ (some 36) _ = _
    simp only [Act.put, List.setIfInBounds_toArray, List.set_cons_zero, List.set_cons_succ, i64_w, i32_w]
    rfl
  refine one_ (i := 23) (N := some 40) #[true, true, true, true, true, true, true, true, true, true, true, true, true, true, true, true, true, true, true, true, true, true, true, true, false, false, false] rfl rfl (one_of HT_.out (by kernel_rfl)) (by decide) (fun K hK => ?_)
  refine goes_ Try.func41 (by kernel_rfl) rfl #[.pointer (some ⟨gr, 0, none⟩), .string idn, .agg #[.int .i64 (-9223372036854775808), .int .i64 9223372036854775807]] (by rfl) rfl rfl (by simp only [List.map_toArray, List.map_cons, List.map_nil]; rfl) ?_
  with_reducible refine ((HRR.out _ HC22.out)).mono ?_
  rintro e w23 ⟨v23, rfl, hR23, hB23⟩
  refine ⟨_, rfl, ?_⟩
  have HR23 := Lib.hid hR23
  have HR22b := Lib.hid (Kd.R_below HR22.out hB23)
  have HC23 := Lib.hid (below_then HC22.out HC22.out.size hB23)
  clear hR23 hB23
  refine hK.out _ _ ⟨pw_cell_below HC23.out c0r, pw_cell_below HC23.out d0, pw_cell_below HC23.out d1⟩ (fun hHeld => ?_)
  clear hK K
  refine norm_ (a' := ?_) ?_ ?_
  rotate_left
  · show Act.put _ (some 40) _ = _
    simp only [Act.put, List.setIfInBounds_toArray, List.set_cons_zero, List.set_cons_succ, i64_w, i32_w]
    rfl
  refine one_ (i := 24) (N := some 41) #[true, true, true, true, true, true, true, true, true, true, true, true, true, true, true, true, true, true, true, true, true, true, true, true, true, false, false] rfl rfl (one_of HT_.out (by kernel_rfl)) (by decide) (fun K hK => ?_)
  refine goes_ Try.func15 (by kernel_rfl) rfl #[v22, v23] (by rfl) rfl rfl (by simp only [List.map_toArray, List.map_cons, List.map_nil]; rfl) ?_
  with_reducible refine ((Buf.same_any HR22b.out HR23.out HVL.out)).mono ?_
  rintro e w24 ⟨rfl, hB24⟩
  refine ⟨_, rfl, ?_⟩
  have HB24 := Lib.hid hB24
  clear hB24
  refine hK.out _ _ ⟨pw_cell_below HB24.out (pw_cell_below HC23.out c0r), pw_cell_below HB24.out (pw_cell_below HC23.out d0), pw_cell_below HB24.out (pw_cell_below HC23.out d1)⟩ (fun hHeld => ?_)
  clear hK K
  refine norm_ (a' := ?_) ?_ ?_
  rotate_left
  · show Act.put _ (some 41) _ = _
    simp only [Act.put, List.setIfInBounds_toArray, List.set_cons_zero, List.set_cons_succ, i64_w, i32_w]
    rfl
  refine pure_ (i := 25) (N := some 42) (v := ?_) (a' := ?_) #[true, true, true, true, true, true, true, true, true, true, true, true, true, true, true, true, true, true, true, true, true, true, true, true, true, true, false] rfl rfl (any_of HT_.out (by kernel_rfl)) (fun _ _ _ h => h) (Or.inl ⟨by rfl, ?_⟩) ?_ ?_
  rotate_left
  · intro w'
    go_simp
    with_reducible rfl
  rotate_left
  · simp only [Act.put, List.setIfInBounds_toArray, List.set_cons_zero, List.set_cons_succ, i64_w, i32_w]
    rfl
  refine pure_ (i := 26) (N := some 43) (v := ?_) (a' := ?_) #[true, true, true, true, true, true, true, true, true, true, true, true, true, true, true, true, true, true, true, true, true, true, true, true, true, true, true] rfl rfl (any_of HT_.out (by kernel_rfl)) (fun _ _ _ h => h) (Or.inl ⟨by rfl, ?_⟩) ?_ ?_
  rotate_left
  · intro w'
    go_simp
    with_reducible rfl
  rotate_left
  · simp only [Act.put, List.setIfInBounds_toArray, List.set_cons_zero, List.set_cons_succ, i64_w, i32_w]
    rfl
  refine done_ (done_of HT_.out (by kernel_rfl)) ?_
  have HW3 := Lib.hid (below_then HC23.out HC23.out.size HB24.out)
  have HR8' := Lib.hid (Kd.R_below HR8.out HW3.out)
  have HT3 := Lib.hid (HT2.out.below HW3.out)
  have HWW := Lib.hid (below_then HW2.out HW2.out.size HW3.out)
  obtain ⟨A8, c8, rfl⟩ := Kd.R_slice HR8'.out
  clear c0r d0 d1 hne1 HLN HRB HRD HRR HVL HR8 HT2 HX2 HNS HC20 HC21 HC22 HC23 HB24 HR22 HR23 HR20 HW3 HW2
  go_wp2_with fail
  go_loopg [9] ns.length (fun gn v9 wr => ∃ (i : Nat), v9 = .int .i64 (i : Int) ∧ Aside0 (gn = ns.length - i) ∧ Aside0 (i ≤ ns.length) ∧ Aside0 (Below w24.heap.size w24 wr))
  case atStart => exact ⟨0, rfl, ⟨rfl⟩, ⟨Nat.zero_le _⟩, ⟨Below.refl _ _⟩⟩
  case round =>
    obtain ⟨i, rfl, HN, HI, HB⟩ := hrel
    by_cases hi : i < ns.length
    · have hi0 : (i : Int) < (ns.length : Int) := by omega
      have hwr : wrap64 ((i : Int) + 1) = (i : Int) + 1 := by unfold wrap64; omega
      have hC := (Kd.R_reads' (Kd.R_below HR8'.out HB.out)).2.2
      obtain ⟨ad, ead, q0⟩ := Kd.at_int hC (i : Int) (by omega) hi0
      cases ead
      have hto : ((i : Int)).toNat = i := Int.toNat_natCast i
      rw [hto] at q0
      obtain ⟨n, hn⟩ : ∃ n, rd ns (i : Int) = n := ⟨_, rfl⟩
      rw [hn] at q0
      have HS := Lib.hid (HT3.out.below HB.out)
      have HTK := Lib.hid (Tk.take_calls wr g b m v HS.out.bi n (by omega) HS.out.sz)
      have HBE := Lib.hid HB.out
      clear hC hn hto HB
      go_wp2_with fail
      with_reducible refine HTK.out.mono ?_
      rintro e w10 ⟨v10, l10, rfl, hT, hV, hB10⟩
      have HT10 := Lib.hid hT
      have HV10 := Lib.hid (Kd.R_V (base' := 0) hV)
      have HS10 := Lib.hid (And.intro (HS.out.below hB10) (below_then HBE.out HBE.out.size hB10))
      have HRT := Lib.hid (Rf.rtake_calls w10 gr L v HS10.out.1.ri (by omega) HS10.out.1.ndL n)
      have q1 := pw_cell_below hB10 q0
      clear hT hV hB10 HTK q0
      go_wp2_with fail
      with_reducible refine HRT.out.mono ?_
      rintro e w11 ⟨v11, rfl, hV, hB11⟩
      have hl10 := HS10.out.1.take HT10.out
      have HS11 := Lib.hid (below_then HS10.out.2 HS10.out.2.size hB11)
      have HSM := Lib.hid (sameS_any (Kd.V_below HV10.out hB11) (hl10 ▸ hV) (by have := (Tk.takeIs_lens HT10.out).2; omega) (fun s hs => by have := (Tk.takeIs_lens HT10.out).1 s hs; omega))
      have hne : (v != v) = false := by simp
      clear hV hB11 hl10 HRT HT10 HV10 HS10 q1
      go_wp2_with fail
      with_reducible refine HSM.out.mono ?_
      rintro e w12 ⟨rfl, hB12⟩
      have HS12 := Lib.hid (below_then HS11.out HS11.out.size hB12)
      clear hB12 HSM HS11 HS HBE
      go_wp2_with fail
      go_roundg (ns.length - (i + 1))
      case measure => have := HN.out; omega
      case rel => exact ⟨i + 1, by first | (simp [hwr]; done) | (simp; done), ⟨rfl⟩, ⟨hi⟩, ⟨HS12.out⟩⟩
    · have hge : ¬ (i : Int) < (ns.length : Int) := by omega
      have HBF := Lib.hid (below_then HWW.out HWW.out.size HB.out)
      clear HB HR8' HT3
      go_wp2
      go_ret
      exact ⟨rfl, HBF.out⟩
end Both
end Go.Proofs.Ytmocpglnoehknaa
