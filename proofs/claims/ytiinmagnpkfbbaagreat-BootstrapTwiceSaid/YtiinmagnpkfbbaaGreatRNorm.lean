/- The document's Normal of one range. -/
import Derived.Test.YtiinmagnpkfbbaaGreatHeavy18
set_option maxHeartbeats 4000000
set_option maxRecDepth 100000
namespace Go.Proofs.YtiinmagnpkfbbaaGreat
set_option linter.unusedVariables false
set_option linter.unusedSimpArgs false
open Go.RowKit Go.Proofs.YtiinmagnpkfbbaaGreatW.PrintWords Go.Proofs.YtiinmagnpkfbbaaGreatW.PrintLast Go.Proofs.YtiinmagnpkfbbaaGreatW.PrintMore Go.Proofs.YtiinmagnpkfbbaaGreat.QT
namespace Bt
theorem info27 : (Tryz.prog.info? 27).map (fun i => (i.zero, i.size, i.bytes)) = some (some (.agg #[.int .i64 0, .int .i64 0]), 2, 16) := by kernel_rfl
def RNrm5.T5 : Bool × List (List Nat × List Nat) := (true, [([], []), ([], []), ([1], [1]), ([0, 2], [0, 2]), ([3], [3]), ([4], [4]), ([4], [4]), ([5, 6, 4], [4, 5, 6]), ([7, 4], [4, 7]), ([8, 4], [4, 8]), ([4], [4]), ([10, 4], [4, 10]), ([9, 11, 4], [4, 9, 11]), ([4, 12], [4, 12])])
def RNrm5.B5 : List Nat := [0, 0, 2, 7, 15, 31, 31, 127, 255, 511, 31, 1055, 4095, 8191]
theorem RNrm5.tab5 : rtab .any (opsOf Tryz.f72 5) = RNrm5.T5 := by kernel_rfl
theorem RNrm5.bits5 : waitsOk RNrm5.T5.2 RNrm5.B5 = true := by kernel_rfl
def RNrm8.T8 : Bool × List (List Nat × List Nat) := (true, [([], []), ([], []), ([1], [1]), ([0, 2], [0, 2]), ([3], [3]), ([4], [4]), ([4], [4]), ([5, 6, 4], [4, 5, 6]), ([7, 4], [4, 7]), ([8, 4], [4, 8]), ([4], [4]), ([10, 4], [4, 10]), ([9, 11, 4], [4, 9, 11]), ([4, 12], [4, 12])])
def RNrm8.B8 : List Nat := [0, 0, 2, 7, 15, 31, 31, 127, 255, 511, 31, 1055, 4095, 8191]
theorem RNrm8.tab8 : rtab .any (opsOf Tryz.f72 8) = RNrm8.T8 := by kernel_rfl
theorem RNrm8.bits8 : waitsOk RNrm8.T8.2 RNrm8.B8 = true := by kernel_rfl
theorem add16_nil (w0 W : World) (gl : Nat) (r : R) (hR : Kd.R k27 27 W w0.heap.size (fun _ => True) (.slice (some ⟨gl, 0, none⟩) 0 0) []) (hB : Below w0.heap.size w0 W) :
  Calls Tryz.prog 72 #[.slice (some ⟨gl, 0, none⟩) 0 0, .agg #[.int .i64 r.f0, .int .i64 r.f1]] W fun e w' => ∃ v : Value, e = .returned v ∧ Kd.R k27 27 w' w0.heap.size (fun _ => True) v (if r.f1 ≤ r.f0 then [] else [r]) ∧ Below w0.heap.size w0 w' := by
 have HR := Lib.hid hR; have HB := Lib.hid hB; clear hR hB
 by_cases hle : r.f1 ≤ r.f0
 ·
  have d0 : decide (r.f1 ≤ r.f0) = true := decide_eq_true hle; rw [if_pos hle]; go_enter Tryz.func72, Tryz.ntmps72
  go_wp2_with ((with_reducible refine gate_dst (N := 3) rfl ?_); refine box_event rfl (N := 3) rfl (cs := #[.int .i64 r.f0, .int .i64 r.f1]) (t := 27) ?hr ?_; (case hr => go_simp; done); intro g3 hg3 X hbox hbX; have HX := Lib.hid hbX; have HG3 := Lib.hid hbox; have y0 : X.cell? ⟨g3, 0, none⟩ = some (.int .i64 r.f0) := (blk_cell hbox 0).trans rfl; have y1 : X.cell? ⟨g3, 1, none⟩ = some (.int .i64 r.f1) := (blk_cell hbox 1).trans rfl; clear hg3 hbox hbX)
  have HRX := Lib.hid (Kd.R_below HR.out HX.out); have HBX := Lib.hid (below_then HB.out HB.out.size HX.out); go_wp2; go_ret; exact ⟨_, rfl, HRX.out, HBX.out⟩
 ·
  have d0 : decide (r.f1 ≤ r.f0) = false := decide_eq_false hle; rw [if_neg hle]; go_enter Tryz.func72, Tryz.ntmps72
  go_wp2_with (first | ((with_reducible refine gate_dst (N := 3) rfl ?_); refine box_event rfl (N := 3) rfl (cs := #[.int .i64 r.f0, .int .i64 r.f1]) (t := 27) ?hr ?_; (case hr => go_simp; done); intro g3 hg3 X hbox hbX; have HX := Lib.hid hbX; have HG3 := Lib.hid hbox; have y0 : X.cell? ⟨g3, 0, none⟩ = some (.int .i64 r.f0) := (blk_cell hbox 0).trans rfl; have y1 : X.cell? ⟨g3, 1, none⟩ = some (.int .i64 r.f1) := (blk_cell hbox 1).trans rfl; clear hg3 hbox hbX) | ((with_reducible refine gate_dst (N := 13) rfl ?_); refine Kd.R_lit k27 (w0 := w0) w0.heap.size 27 ?hg (N := 13) ?hd (xs := ([] : List S27)) (inner := []) (ok := fun _ => True) (okp := fun _ => True) ?hr ?hp (fun _ hk => hk) ?hf (below_then HB.out HB.out.size HX.out) (below_then HB.out HB.out.size HX.out).size (by simp) ?_; (case hd => rfl); (case hg => rfl); (case hr => go_simp; done); (case hp => exact (Reps.none _ _)); (case hf => exact trivial); intro v5 w5 hR5 hB5 hg5 hnn5; clear hnn5; have HR5 := Lib.hid hR5; have HB5 := Lib.hid hB5; go_loud (have HG5 := Lib.hid (hg5.block g3 (blk_lt HG3.out) (fun e => by cases e))); go_loud (obtain ⟨A5, n5, c5, hn5, rfl⟩ : ∃ A n c, n = 0 ∧ v5 = .slice A n c := by { obtain ⟨A, c, e⟩ := Kd.R_slice hR5; exact ⟨A, _, c, rfl, e⟩ }); go_loud (subst hn5); go_loud (clear hR5 hB5 hg5)))
  have HG35 := Lib.hid (HG5.out.trans HG3.out); have y0 : w5.cell? ⟨g3, 0, none⟩ = some (.int .i64 r.f0) := (blk_cell HG35.out 0).trans rfl; have y1 : w5.cell? ⟨g3, 1, none⟩ = some (.int .i64 r.f1) := (blk_cell HG35.out 1).trans rfl; go_loopg [5, 6] 1 (fun gn s5 s6 wr => s5 = .slice A5 0 c5 ∧ s6 = .int .i64 0 ∧ Aside0 (Below w5.heap.size w5 wr))
  case atStart => exact ⟨rfl, rfl, ⟨Below.refl _ _⟩⟩
  case round =>
   obtain ⟨rfl, rfl, HBR⟩ := hrel; have y0 : wr.cell? ⟨g3, 0, none⟩ = some (.int .i64 r.f0) := (blk_cell (blk_below HG35.out HBR.out) 0).trans rfl; have y1 : wr.cell? ⟨g3, 1, none⟩ = some (.int .i64 r.f1) := (blk_cell (blk_below HG35.out HBR.out) 1).trans rfl; go_wp2_with fail
   refine start_ (n := 14) (S := fun w' => w'.cell? ⟨g3, 0, none⟩ = some (.int .i64 r.f0) ∧ w'.cell? ⟨g3, 1, none⟩ = some (.int .i64 r.f1)) (ds := []) (bs 14 0) (by kernel_rfl) rfl rfl ⟨y0, y1⟩ (fun hHeld => ?_); refine with_tabW RNrm5.tab5 RNrm5.bits5 (fun HT_ HW_ => ?_); apply pv 0 14 (bs 14 1) HT_; rfl; rfl; kernel_rfl; exact qq; rfl; intro w'; go_simp; with_reducible rfl; simp only [zz]; rfl
   apply pv 1 15 (bs 14 3) HT_; rfl; rfl; kernel_rfl; exact qq; rfl; intro w'; go_simp; with_reducible rfl; simp only [zz]; rfl
   apply pv 2 16 (bs 14 7) HT_; rfl; rfl; kernel_rfl; exact qq; rfl; intro w'; go_simp; with_reducible rfl; simp only [zz]; rfl
   apply pv 3 17 (bs 14 15) HT_; rfl; rfl; kernel_rfl; exact qq; rfl; intro w'; go_simp; with_reducible rfl; simp only [zz]; rfl
   apply pv 4 18 (bs 14 31) HT_; rfl; rfl; kernel_rfl; exact qq; rfl; intro w'; go_simp; with_reducible rfl; simp only [zz]; rfl
   apply py 5 19 (bs 14 63) HT_; rfl; rfl; kernel_rfl; exact qq; rfl; simp only [zz]; rfl; apply py 6 20 (bs 14 127) HT_; rfl; rfl; kernel_rfl; exact qq; rfl; simp only [zz]; rfl; apply py 7 21 (bs 14 255) HT_; rfl; rfl; kernel_rfl; exact qq; rfl; simp only [zz]; rfl; apply py 8 22 (bs 14 511) HT_; rfl; rfl; kernel_rfl; exact qq; rfl; simp only [zz]; rfl; apply py 9 23 (bs 14 1023) HT_; rfl; rfl; kernel_rfl; exact qq; rfl; simp only [zz]; rfl; apply py 10 24 (bs 14 2047) HT_; rfl; rfl; kernel_rfl; exact qq; rfl; simp only [zz]; rfl; apply py 11 25 (bs 14 4095) HT_; rfl; rfl; kernel_rfl; exact qq; rfl; simp only [zz]; rfl; apply py 12 26 (bs 14 8191) HT_; rfl; rfl; kernel_rfl; exact qq; rfl; simp only [zz]; rfl; apply pv 13 27 (bs 14 16383) HT_; rfl; rfl; kernel_rfl; exact qq; rfl; intro w'; go_simp; with_reducible rfl; simp only [zz]; rfl
   refine done_ (done_of HT_.out (by kernel_rfl)) ?_; have HBQ := Lib.hid (show Below w5.heap.size w5 wr.drew from below_drew HBR.out)
   obtain ⟨wz, hwz⟩ : ∃ wz : World, wz = wr.drew := ⟨_, rfl⟩
   rw [← hwz] at HBQ; rw [← hwz]; clear hwz y0 y1; go_wp2_with fail
   go_loopg [6] 1 (fun gn s6 wq => s6 = .int .i64 0 ∧ Aside0 (Below w5.heap.size w5 wq))
   case atStart => exact ⟨rfl, ⟨HBQ.out⟩⟩
   case round =>
    obtain ⟨rfl, HBS⟩ := hrel; have y0 : wr.cell? ⟨g3, 0, none⟩ = some (.int .i64 r.f0) := (blk_cell (blk_below HG35.out HBS.out) 0).trans rfl; have y1 : wr.cell? ⟨g3, 1, none⟩ = some (.int .i64 r.f1) := (blk_cell (blk_below HG35.out HBS.out) 1).trans rfl; go_wp2_with fail
    refine start_ (n := 14) (S := fun w' => w'.cell? ⟨g3, 0, none⟩ = some (.int .i64 r.f0) ∧ w'.cell? ⟨g3, 1, none⟩ = some (.int .i64 r.f1)) (ds := []) (bs 14 0) (by kernel_rfl) rfl rfl ⟨y0, y1⟩ (fun hHeld => ?_); refine with_tabW RNrm8.tab8 RNrm8.bits8 (fun HT_ HW_ => ?_); apply pv 0 37 (bs 14 1) HT_; rfl; rfl; kernel_rfl; exact qq; rfl; intro w'; go_simp; with_reducible rfl; simp only [zz]; rfl
    apply pv 1 38 (bs 14 3) HT_; rfl; rfl; kernel_rfl; exact qq; rfl; intro w'; go_simp; with_reducible rfl; simp only [zz]; rfl
    apply pv 2 39 (bs 14 7) HT_; rfl; rfl; kernel_rfl; exact qq; rfl; intro w'; go_simp; with_reducible rfl; simp only [zz]; rfl
    apply pv 3 40 (bs 14 15) HT_; rfl; rfl; kernel_rfl; exact qq; rfl; intro w'; go_simp; with_reducible rfl; simp only [zz]; rfl
    apply pv 4 41 (bs 14 31) HT_; rfl; rfl; kernel_rfl; exact qq; rfl; intro w'; go_simp; with_reducible rfl; simp only [zz]; rfl
    apply py 5 42 (bs 14 63) HT_; rfl; rfl; kernel_rfl; exact qq; rfl; simp only [zz]; rfl; apply py 6 43 (bs 14 127) HT_; rfl; rfl; kernel_rfl; exact qq; rfl; simp only [zz]; rfl; apply py 7 44 (bs 14 255) HT_; rfl; rfl; kernel_rfl; exact qq; rfl; simp only [zz]; rfl; apply py 8 45 (bs 14 511) HT_; rfl; rfl; kernel_rfl; exact qq; rfl; simp only [zz]; rfl; apply py 9 46 (bs 14 1023) HT_; rfl; rfl; kernel_rfl; exact qq; rfl; simp only [zz]; rfl; apply py 10 47 (bs 14 2047) HT_; rfl; rfl; kernel_rfl; exact qq; rfl; simp only [zz]; rfl; apply py 11 48 (bs 14 4095) HT_; rfl; rfl; kernel_rfl; exact qq; rfl; simp only [zz]; rfl; apply py 12 49 (bs 14 8191) HT_; rfl; rfl; kernel_rfl; exact qq; rfl; simp only [zz]; rfl; apply pv 13 50 (bs 14 16383) HT_; rfl; rfl; kernel_rfl; exact qq; rfl; intro w'; go_simp; with_reducible rfl; simp only [zz]; rfl
    refine done_ (done_of HT_.out (by kernel_rfl)) ?_; have HBT := Lib.hid (show Below w5.heap.size w5 wr.drew from below_drew HBS.out)
    obtain ⟨wy, hwy⟩ : ∃ wy : World, wy = wr.drew := ⟨_, rfl⟩
    rw [← hwy] at HBT; rw [← hwy]; clear hwy y0 y1; have y0 : wy.cell? ⟨g3, 0, none⟩ = some (.int .i64 r.f0) := (blk_cell (blk_below HG35.out HBT.out) 0).trans rfl; have y1 : wy.cell? ⟨g3, 1, none⟩ = some (.int .i64 r.f1) := (blk_cell (blk_below HG35.out HBT.out) 1).trans rfl; have HR8 := Lib.hid (Kd.R_below HR5.out HBT.out); have HB8 := Lib.hid (below_then HB5.out HB5.out.size HBT.out)
    go_wp2_with (first | (at_builtin; refine (Kd.R_append k27 (w0 := w0) w0.heap.size rfl (.tmp 71) (.tmp 73) 50 27 (.agg #[.int .i64 0, .int .i64 0]) 16 rfl Tryz.underlying50 info27 rfl (by decide) (by omega) (.slice A5 0 c5) [] r [.int .i64 r.f0, .int .i64 r.f1] (fun _ => True) (fun _ => False) rfl ?aX ?aP (fun _ hk => hk.elim) ?aF ?aO ?aB ?aS ?aL ?_); go_loud (case aX => rfl); go_loud (case aP => exact k27_mkM _ _ _ r); (case aF => exact (fun _ _ => trivial)); go_loud (case aO => exact HR8.out); go_loud (case aB => exact HB8.out); go_loud (case aS => exact HB8.out.size); (case aL => simp); intro v9 w9 hR9 hB9 hg9 hat9; have HR9 := Lib.hid (show Kd.R k27 27 w9 w0.heap.size (fun _ => True) v9 [r] from hR9); have HB9 := Lib.hid hB9; obtain ⟨A9, c9, rfl⟩ : ∃ A c, v9 = .slice A 1 c := by { obtain ⟨A, c, e⟩ := Kd.R_slice hR9; exact ⟨A, c, e⟩ }; clear hR9 hB9 hg9 hat9) | (at_builtin; refine (Kd.R_append_rows k27 (Rr := fun x cs => cs = [.int .i64 x.f0, .int .i64 x.f1]) (w0 := w0) w0.heap.size rfl (.tmp 75) (.tmp 78) 50 27 (.agg #[.int .i64 0, .int .i64 0]) 16 rfl Tryz.underlying50 info27 rfl (by decide) (by decide) (.slice A9 1 c9) [r] [] (some ⟨gl, 0, none⟩) 0 0 (fun _ => True) (fun _ => False) ?bX ?bP ?bO ?bR ?bK (fun _ hk => hk.elim) (fun _ _ => trivial) ?bB ?bS ?bL ?_); go_loud (case bX => rfl); go_loud (case bP => rfl); go_loud (case bK => exact (fun y cs h => by subst h; exact k27_mkM _ _ _ y)); go_loud (case bR => exact ⟨rfl, by decide, fun h => absurd h (by decide)⟩); go_loud (case bO => exact HR9.out); go_loud (case bB => exact HB9.out); go_loud (case bS => exact HB9.out.size); go_loud (case bL => simp); intro v10 w10 hR10 hB10 hg10 hat10; have HR10 := Lib.hid (show Kd.R k27 27 w10 w0.heap.size (fun _ => True) v10 [r] from by simpa using hR10); have HB10 := Lib.hid hB10; clear hR10 hB10 hg10 hat10))
    go_ret; exact ⟨_, rfl, HR10.out, HB10.out⟩
theorem R_empty {α : Type} {d : Kd α} {e : Nat} {w : World} {base gl : Nat} {ok : Nat → Prop} (h : w.heap[gl]? = some (.cells #[] e (0, 0))) (hb : base ≤ gl) (hok : ok gl) : d.R e w base ok (.slice (some ⟨gl, 0, none⟩) 0 0) [] :=
 ⟨fun k hk => by simp [Value.ownBlock] at hk; subst hk; exact hok, [], ⟨by simp, .inr ⟨gl, 0, #[], rfl, hb, h, Nat.le_refl _, Nat.zero_le _, by simp, by simp⟩⟩, Reps.none _ _⟩
theorem norm_lit (W : World) (x : R) : Calls Tryz.prog 44 #[.slice (some ⟨W.heap.size, 0, none⟩) 1 1] (W.alloc (.cells #[.int .i64 x.f0, .int .i64 x.f1] 27)) fun e w' => ∃ v : Value, e = .returned v ∧ Kd.R k27 27 w' W.heap.size (fun _ => True) v (if x.f1 ≤ x.f0 then [] else [x]) ∧ Below W.heap.size W w' := by
 obtain ⟨go, hgo⟩ : ∃ go, go = W.heap.size := ⟨_, rfl⟩
 obtain ⟨Y, hY⟩ : ∃ Y : World, Y = W.alloc (.cells #[.int .i64 x.f0, .int .i64 x.f1] 27) := ⟨_, rfl⟩
 have HBL := Lib.hid (blk_new W (.cells #[.int .i64 x.f0, .int .i64 x.f1] 27)); have HAY := Lib.hid (below_alloc (Below.refl W.heap.size W) (.cells #[.int .i64 x.f0, .int .i64 x.f1] 27)); rw [← hY] at HBL HAY; rw [← hgo] at HBL; rw [← hY, show (⟨W.heap.size, 0, none⟩ : Addr) = ⟨go, 0, none⟩ by rw [hgo]]; clear hY hgo
 obtain ⟨res, hres⟩ : ∃ res, (if x.f1 ≤ x.f0 then [] else [x]) = res := ⟨_, rfl⟩
 rw [hres]; have HAD := Lib.hid (fun V gl hR hB => by have := add16_nil W V gl x hR hB; rwa [hres] at this); clear hres; have HE := Lib.hid (blk_new Y (.cells #[] 27)); have HAZ := Lib.hid (below_alloc (Below.refl Y.heap.size Y) (.cells #[] 27)); go_enter Tryz.func44, Tryz.ntmps44
 go_wp2_with fail
 obtain ⟨gl, hgl⟩ : ∃ gl, gl = Y.heap.size := ⟨_, rfl⟩
 obtain ⟨Z, hZ⟩ : ∃ Z : World, Z = Y.alloc (.cells #[] 27) := ⟨_, rfl⟩
 rw [← hZ] at HE HAZ; rw [← hgl] at HE; rw [← hZ, ← hgl]; have HBZ := Lib.hid (below_then HAY.out HAY.out.size HAZ.out); have HRZ := Lib.hid (R_empty (d := k27) (ok := fun _ => True) HE.out (by rw [hgl]; exact HAY.out.size) trivial); have z0 : Z.cell? ⟨go, 0, none⟩ = some (.int .i64 x.f0) := (blk_cell (blk_below HBL.out HAZ.out) 0).trans rfl; have z1 : Z.cell? ⟨go, 1, none⟩ = some (.int .i64 x.f1) := (blk_cell (blk_below HBL.out HAZ.out) 1).trans rfl; clear hZ hgl HE HAZ; go_loopg [3, 4] 1 (fun gn s3 s4 wr => (s4 = .int .i64 0 ∧ s3 = .slice (some ⟨gl, 0, none⟩) 0 0 ∧ Aside0 (gn = 1) ∧ Aside0 (wr = Z)) ∨ (s4 = .int .i64 1 ∧ Aside0 (gn = 0) ∧ Aside0 (Kd.R k27 27 wr W.heap.size (fun _ => True) s3 res) ∧ Aside0 (Below W.heap.size W wr)))
 case atStart => exact .inl ⟨rfl, rfl, ⟨rfl⟩, ⟨rfl⟩⟩
 case round =>
  rcases hrel with ⟨rfl, rfl, HN, HW⟩ | ⟨rfl, HN, HR, HB⟩
  ·
   have hww := HW.out; subst hww; go_wp2_with fail
   with_reducible refine (HAD.out _ _ HRZ.out HBZ.out).mono ?_
   rintro e w5 ⟨v5, rfl, hR5, hb5⟩; have HR5 := Lib.hid hR5; have HB5 := Lib.hid hb5; clear hR5 hb5; go_wp2_with fail
   go_roundg 0
   case measure => rw [HN.out]; decide
   case rel => exact .inr ⟨by rfl, ⟨rfl⟩, ⟨HR5.out⟩, ⟨HB5.out⟩⟩
  ·
   go_wp2; go_ret; exact ⟨_, rfl, HR.out, HB.out⟩
end Bt
end Go.Proofs.YtiinmagnpkfbbaaGreat
