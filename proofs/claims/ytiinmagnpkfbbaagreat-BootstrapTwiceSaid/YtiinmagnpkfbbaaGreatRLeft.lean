/- The document's Left, Done. -/
import Derived.Test.YtiinmagnpkfbbaaGreatRNorm
set_option maxHeartbeats 4000000
set_option maxRecDepth 100000
namespace Go.Proofs.YtiinmagnpkfbbaaGreat
set_option linter.unusedVariables false
set_option linter.unusedSimpArgs false
open Go.RowKit Go.Proofs.YtiinmagnpkfbbaaGreatW.PrintWords Go.Proofs.YtiinmagnpkfbbaaGreatW.PrintLast Go.Proofs.YtiinmagnpkfbbaaGreatW.PrintMore Go.Proofs.YtiinmagnpkfbbaaGreat.QT
namespace Bt
theorem wrapI (i : Nat) (h : i ≤ 1000000) : wrap64 ((i : Int) + 1) = ((i + 1 : Nat) : Int) := by unfold wrap64; omega
theorem rdI {l : List Int} {i : Nat} (h : i < l.length) : rd l (i : Int) = l[i] := by
 unfold rd; rw [Int.toNat_natCast, List.getD_eq_getElem?_getD, List.getElem?_eq_getElem h]; rfl
theorem has_ev0 (l : List Int) (hl : l.length ≤ 1000000) (x : Int) : ∀ (d i : Nat), i + d = l.length → Ev (fun k => thermographref18_has.l0 k l x (i : Int)) (decide (x ∈ l.drop i))
 | 0, i, h => by
  rw [List.drop_eq_nil_of_le (by omega)]
  exact Ev.step (f := fun _ => some _) (fun k => by rw [thermographref18_has.l0, if_neg (by omega)]; simp) (Ev.now _)
 | d + 1, i, h => by
  have hi : i < l.length := by omega
  have ih := has_ev0 l hl x d (i + 1) (by omega); rw [List.drop_eq_getElem_cons hi]
  by_cases hx : l[i] = x
  ·
   exact Ev.step (f := fun _ => some _) (fun k => by rw [thermographref18_has.l0, if_pos (by omega), if_pos (by omega), rdI hi, if_pos hx]; simp [hx]) (Ev.now _)
  ·
   have e : decide (x ∈ l[i] :: l.drop (i + 1)) = decide (x ∈ l.drop (i + 1)) := by
    have : ¬ x = l[i] := fun e => hx e.symm; exact decide_eq_decide.2 ⟨fun h => (List.mem_cons.1 h).resolve_left this, fun h => List.mem_cons_of_mem _ h⟩
   rw [e]; exact Ev.step (fun k => by rw [thermographref18_has.l0, if_pos (by omega), if_pos (by omega), rdI hi, if_neg hx, wrapI i (by omega)]) ih
theorem has_calls (w : World) (A : Option Addr) (c : Nat) (l : List Int) (hC : Kd.C (Kd.int .i64) w A l.length l) (hc : l.length ≤ c) (hl : l.length ≤ 1000000) (x : Int) :
  Calls Tryz.prog 30 #[.slice A l.length c, .int .i64 x] w fun e w' => e = .returned (.bool (decide (x ∈ l))) ∧ Below w.heap.size w w' := by
 have h := has_ev0 l hl x l.length 0 (by omega); rw [List.drop_zero] at h; have h2 : Ev (fun k => thermographref18_has.f k l x) (decide (x ∈ l)) := Ev.congr (fun k => by unfold thermographref18_has.f; rfl) h; obtain ⟨k, hk⟩ := h2.rounds
 exact (thermographref18_has.calls k A c l x _ w hC hc hk).mono fun e w' ⟨he, hd⟩ => ⟨he, by obtain ⟨n, rfl⟩ := hd; exact ⟨rfl, rfl, rfl, Nat.le_refl _, fun _ _ => rfl⟩⟩
/-- What the document's boot lacks by itself (nothing is filled). -/
def gaveR (b : Rb) : Bool := b.own.f1 == 1 && (decide (b.own.f2 ∈ b.giv) || (b.oth.length == 2 && decide (b.oth.getD 0 0 ∈ b.giv) && decide (b.oth.getD 1 0 ∈ b.giv)))
def leftR (b : Rb) : List R := if gaveR b = true then [] else if b.need.f1 ≤ b.need.f0 then [] else [b.need]
def RLeft1f.T1 : Bool × List (List Nat × List Nat) := (true, [([], []), ([0], [0]), ([1], [1]), ([2], [2]), ([3], [3]), ([4], [4]), ([5], [5]), ([6], [6]), ([7, 6], [6, 7]), ([8, 6], [6, 8]), ([9, 6], [6, 9]), ([6], [6]), ([11, 6], [6, 11]), ([12, 6], [6, 12]), ([13, 6], [6, 13]), ([14, 6], [6, 14]), ([10, 15, 6, 6], [6, 10, 15]), ([6, 16], [6, 16])])
def RLeft1f.B1 : List Nat := [0, 1, 3, 7, 15, 31, 63, 127, 255, 511, 1023, 127, 2175, 6271, 14463, 30847, 65535, 131071]
theorem RLeft1f.tab1 : rtab .any (opsOf Tryz.f22 1) = RLeft1f.T1 := by kernel_rfl
theorem RLeft1f.bits1 : waitsOk RLeft1f.T1.2 RLeft1f.B1 = true := by kernel_rfl
def RLeft1t.T1 : Bool × List (List Nat × List Nat) := (true, [([], []), ([0], [0]), ([1], [1]), ([2], [2]), ([3], [3]), ([4], [4]), ([5], [5]), ([6], [6]), ([7, 6], [6, 7]), ([8, 6], [6, 8]), ([9, 6], [6, 9]), ([6], [6]), ([11, 6], [6, 11]), ([12, 6], [6, 12]), ([13, 6], [6, 13]), ([14, 6], [6, 14]), ([10, 15, 6, 6], [6, 10, 15]), ([6, 16], [6, 16])])
def RLeft1t.B1 : List Nat := [0, 1, 3, 7, 15, 31, 63, 127, 255, 511, 1023, 127, 2175, 6271, 14463, 30847, 65535, 131071]
theorem RLeft1t.tab1 : rtab .any (opsOf Tryz.f22 1) = RLeft1t.T1 := by kernel_rfl
theorem RLeft1t.bits1 : waitsOk RLeft1t.T1.2 RLeft1t.B1 = true := by kernel_rfl
def RLeft30.T3 : Bool × List (List Nat × List Nat) := (true, [([], []), ([0], [0]), ([1], [1]), ([2], [2]), ([3], [3]), ([4], [4]), ([5], [5]), ([6], [6]), ([7, 6], [6, 7]), ([8, 6], [6, 8]), ([9, 6], [6, 9]), ([10, 6], [6, 10]), ([11, 6], [6, 11]), ([6, 12], [6, 12]), ([13, 6], [13]), ([14], [14]), ([15, 14], [14, 15]), ([16, 14], [14, 16]), ([17, 14], [14, 17]), ([14], [14]), ([19, 14], [14, 19]), ([20, 14], [14, 20]), ([21, 14], [14, 21]), ([22, 14], [14, 22]), ([23, 14], [14, 23]), ([18, 24, 14, 14], [14, 18, 24]), ([14, 25], [14, 25]), ([26, 25], [26]), ([27], [27]), ([28, 27], [27, 28]), ([29, 27], [27, 29]), ([30, 27], [27, 30]), ([27], [27]), ([32, 27], [27, 32]), ([33, 27], [27, 33]), ([34, 27], [27, 34]), ([35, 27], [27, 35]), ([36, 27], [27, 36]), ([31, 37, 27, 27], [27, 31, 37]), ([27, 38], [27, 38])])
def RLeft30.B3 : List Nat := [0, 1, 3, 7, 15, 31, 63, 127, 255, 511, 1023, 2047, 4095, 8191, 16383, 32767, 65535, 131071, 262143, 32767, 557055, 1605631, 3702783, 7897087, 16285695, 33554431, 67108863, 134217727, 268435455, 536870911, 1073741823, 2147483647, 268435455, 4563402751, 13153337343, 30333206527, 64692944895, 133412421631, 274877906943, 549755813887]
theorem RLeft30.tab3 : rtab .any (opsOf Tryz.f22 3) = RLeft30.T3 := by kernel_rfl
theorem RLeft30.bits3 : waitsOk RLeft30.T3.2 RLeft30.B3 = true := by kernel_rfl
def RLeft31.T3 : Bool × List (List Nat × List Nat) := (true, [([], []), ([0], [0]), ([1], [1]), ([2], [2]), ([3], [3]), ([4], [4]), ([5], [5]), ([6], [6]), ([7, 6], [6, 7]), ([8, 6], [6, 8]), ([9, 6], [6, 9]), ([10, 6], [6, 10]), ([11, 6], [6, 11]), ([6, 12], [6, 12]), ([13, 6], [13]), ([14], [14]), ([15, 14], [14, 15]), ([16, 14], [14, 16]), ([17, 14], [14, 17]), ([14], [14]), ([19, 14], [14, 19]), ([20, 14], [14, 20]), ([21, 14], [14, 21]), ([22, 14], [14, 22]), ([23, 14], [14, 23]), ([18, 24, 14, 14], [14, 18, 24]), ([14, 25], [14, 25]), ([26, 25], [26]), ([27], [27]), ([28, 27], [27, 28]), ([29, 27], [27, 29]), ([30, 27], [27, 30]), ([27], [27]), ([32, 27], [27, 32]), ([33, 27], [27, 33]), ([34, 27], [27, 34]), ([35, 27], [27, 35]), ([36, 27], [27, 36]), ([31, 37, 27, 27], [27, 31, 37]), ([27, 38], [27, 38])])
def RLeft31.B3 : List Nat := [0, 1, 3, 7, 15, 31, 63, 127, 255, 511, 1023, 2047, 4095, 8191, 16383, 32767, 65535, 131071, 262143, 32767, 557055, 1605631, 3702783, 7897087, 16285695, 33554431, 67108863, 134217727, 268435455, 536870911, 1073741823, 2147483647, 268435455, 4563402751, 13153337343, 30333206527, 64692944895, 133412421631, 274877906943, 549755813887]
theorem RLeft31.tab3 : rtab .any (opsOf Tryz.f22 3) = RLeft31.T3 := by kernel_rfl
theorem RLeft31.bits3 : waitsOk RLeft31.T3.2 RLeft31.B3 = true := by kernel_rfl
def RLeft32.T3 : Bool × List (List Nat × List Nat) := (true, [([], []), ([0], [0]), ([1], [1]), ([2], [2]), ([3], [3]), ([4], [4]), ([5], [5]), ([6], [6]), ([7, 6], [6, 7]), ([8, 6], [6, 8]), ([9, 6], [6, 9]), ([10, 6], [6, 10]), ([11, 6], [6, 11]), ([6, 12], [6, 12]), ([13, 6], [13]), ([14], [14]), ([15, 14], [14, 15]), ([16, 14], [14, 16]), ([17, 14], [14, 17]), ([14], [14]), ([19, 14], [14, 19]), ([20, 14], [14, 20]), ([21, 14], [14, 21]), ([22, 14], [14, 22]), ([23, 14], [14, 23]), ([18, 24, 14, 14], [14, 18, 24]), ([14, 25], [14, 25]), ([26, 25], [26]), ([27], [27]), ([28, 27], [27, 28]), ([29, 27], [27, 29]), ([30, 27], [27, 30]), ([27], [27]), ([32, 27], [27, 32]), ([33, 27], [27, 33]), ([34, 27], [27, 34]), ([35, 27], [27, 35]), ([36, 27], [27, 36]), ([31, 37, 27, 27], [27, 31, 37]), ([27, 38], [27, 38])])
def RLeft32.B3 : List Nat := [0, 1, 3, 7, 15, 31, 63, 127, 255, 511, 1023, 2047, 4095, 8191, 16383, 32767, 65535, 131071, 262143, 32767, 557055, 1605631, 3702783, 7897087, 16285695, 33554431, 67108863, 134217727, 268435455, 536870911, 1073741823, 2147483647, 268435455, 4563402751, 13153337343, 30333206527, 64692944895, 133412421631, 274877906943, 549755813887]
theorem RLeft32.tab3 : rtab .any (opsOf Tryz.f22 3) = RLeft32.T3 := by kernel_rfl
theorem RLeft32.bits3 : waitsOk RLeft32.T3.2 RLeft32.B3 = true := by kernel_rfl
def RLeft33.T3 : Bool × List (List Nat × List Nat) := (true, [([], []), ([0], [0]), ([1], [1]), ([2], [2]), ([3], [3]), ([4], [4]), ([5], [5]), ([6], [6]), ([7, 6], [6, 7]), ([8, 6], [6, 8]), ([9, 6], [6, 9]), ([10, 6], [6, 10]), ([11, 6], [6, 11]), ([6, 12], [6, 12]), ([13, 6], [13]), ([14], [14]), ([15, 14], [14, 15]), ([16, 14], [14, 16]), ([17, 14], [14, 17]), ([14], [14]), ([19, 14], [14, 19]), ([20, 14], [14, 20]), ([21, 14], [14, 21]), ([22, 14], [14, 22]), ([23, 14], [14, 23]), ([18, 24, 14, 14], [14, 18, 24]), ([14, 25], [14, 25]), ([26, 25], [26]), ([27], [27]), ([28, 27], [27, 28]), ([29, 27], [27, 29]), ([30, 27], [27, 30]), ([27], [27]), ([32, 27], [27, 32]), ([33, 27], [27, 33]), ([34, 27], [27, 34]), ([35, 27], [27, 35]), ([36, 27], [27, 36]), ([31, 37, 27, 27], [27, 31, 37]), ([27, 38], [27, 38])])
def RLeft33.B3 : List Nat := [0, 1, 3, 7, 15, 31, 63, 127, 255, 511, 1023, 2047, 4095, 8191, 16383, 32767, 65535, 131071, 262143, 32767, 557055, 1605631, 3702783, 7897087, 16285695, 33554431, 67108863, 134217727, 268435455, 536870911, 1073741823, 2147483647, 268435455, 4563402751, 13153337343, 30333206527, 64692944895, 133412421631, 274877906943, 549755813887]
theorem RLeft33.tab3 : rtab .any (opsOf Tryz.f22 3) = RLeft33.T3 := by kernel_rfl
theorem RLeft33.bits3 : waitsOk RLeft33.T3.2 RLeft33.B3 = true := by kernel_rfl
theorem rleft_calls (w : World) (B g : Nat) (vO vG vF vS : Value) (b : Rb) (h : Rs w B g vO vG vF vS b) (ho : b.oth.length ≤ 1000000) (hg : b.giv.length ≤ 1000000) (hf : b.fil = []) :
  Calls Tryz.prog 22 #[.pointer (some ⟨g, 0, none⟩)] w fun e w' => ∃ v : Value, e = .returned v ∧ Kd.R k27 27 w' w.heap.size (fun _ => True) v (leftR b) ∧ Below w.heap.size w w' := by
 obtain ⟨AO, cO, rfl⟩ := Kd.R_slice h.oth; obtain ⟨AG, cG, rfl⟩ := Kd.R_slice h.giv; obtain ⟨AF, cF, hF⟩ := Kd.R_slice h.fil; rw [hf] at hF; subst hF; have HGB := Lib.hid h.blk; have HRO := Lib.hid h.oth; have HHAS := Lib.hid (fun W (hW : Below w.heap.size w W) (x : Int) => has_calls W AG cG b.giv (Kd.C_below (Kd.R_reads' h.giv).2.2 hW) (R_cap h.giv) hg x); have HNL := Lib.hid (fun W => norm_lit W b.need); have c1 : w.cell? ⟨g, 1, none⟩ = some (.int .i64 b.own.f1) := (blk_cell HGB.out 1).trans rfl; have c2 : w.cell? ⟨g, 2, none⟩ = some (.int .i64 b.own.f2) := (blk_cell HGB.out 2).trans rfl; have c3 : w.cell? ⟨g, 3, none⟩ = some (.slice AO b.oth.length cO) := (blk_cell HGB.out 3).trans rfl; have c4 : w.cell? ⟨g, 4, none⟩ = some (.slice AG b.giv.length cG) := (blk_cell HGB.out 4).trans rfl; clear h
 by_cases hst : b.own.f1 = 1
 case neg =>
  have d1 : (b.own.f1 == 1) = false := beq_eq_false_iff_ne.2 hst; have HGV := Lib.hid (show leftR b = (if b.need.f1 ≤ b.need.f0 then [] else [b.need]) by unfold leftR gaveR; rw [d1]; rfl); clear hst; go_enter Tryz.func22, Tryz.ntmps22
  go_wp2_with fail
  refine start_ (n := 18) (S := fun w' => w'.cell? ⟨g, 1, none⟩ = some (.int .i64 b.own.f1) ∧ w'.cell? ⟨g, 2, none⟩ = some (.int .i64 b.own.f2) ∧ w'.cell? ⟨g, 3, none⟩ = some (.slice AO b.oth.length cO) ∧ w'.cell? ⟨g, 4, none⟩ = some (.slice AG b.giv.length cG)) (ds := []) (bs 18 0) (by kernel_rfl) rfl rfl ⟨c1, c2, c3, c4⟩ (fun hHeld => ?_); refine with_tabW RLeft1f.tab1 RLeft1f.bits1 (fun HT_ HW_ => ?_); apply pv 0 5 (bs 18 1) HT_; rfl; rfl; kernel_rfl; exact qq; rfl; intro w'; go_simp; with_reducible rfl; simp only [zz]; rfl
  apply pv 1 6 (bs 18 3) HT_; rfl; rfl; kernel_rfl; exact qq; rfl; intro w'; go_simp; with_reducible rfl; simp only [zz]; rfl
  apply pv 2 7 (bs 18 7) HT_; rfl; rfl; kernel_rfl; exact qq; rfl; intro w'; go_simp; with_reducible rfl; simp only [zz]; rfl
  apply pv 3 8 (bs 18 15) HT_; rfl; rfl; kernel_rfl; exact qq; rfl; intro w'; go_simp; with_reducible rfl; simp only [zz]; rfl
  apply tb 4 9 (bs 18 31) HT_ HW_ hHeld; rfl; rfl; kernel_rfl; exact qq; rfl; rintro w' ⟨s0, s1, s2, s3⟩; go_simp; with_reducible rfl; simp only [zz]; rfl
  apply pv 5 10 (bs 18 63) HT_; rfl; rfl; kernel_rfl; exact qq; rfl; intro w'; go_simp; with_reducible rfl; simp only [zz]; rfl
  apply pv 6 11 (bs 18 127) HT_; rfl; rfl; kernel_rfl; exact qq; rfl; intro w'; go_simp; with_reducible rfl; simp only [zz]; rfl
  apply py 7 12 (bs 18 255) HT_; rfl; rfl; kernel_rfl; exact qq; rfl; simp only [zz]; rfl; apply py 8 13 (bs 18 511) HT_; rfl; rfl; kernel_rfl; exact qq; rfl; simp only [zz]; rfl; apply py 9 14 (bs 18 1023) HT_; rfl; rfl; kernel_rfl; exact qq; rfl; simp only [zz]; rfl; apply py 10 15 (bs 18 2047) HT_; rfl; rfl; kernel_rfl; exact qq; rfl; simp only [zz]; rfl; apply py 11 16 (bs 18 4095) HT_; rfl; rfl; kernel_rfl; exact qq; rfl; simp only [zz]; rfl; apply py 12 17 (bs 18 8191) HT_; rfl; rfl; kernel_rfl; exact qq; rfl; simp only [zz]; rfl; apply py 13 18 (bs 18 16383) HT_; rfl; rfl; kernel_rfl; exact qq; rfl; simp only [zz]; rfl; apply py 14 19 (bs 18 32767) HT_; rfl; rfl; kernel_rfl; exact qq; rfl; simp only [zz]; rfl; apply py 15 20 (bs 18 65535) HT_; rfl; rfl; kernel_rfl; exact qq; rfl; simp only [zz]; rfl; apply py 16 21 (bs 18 131071) HT_; rfl; rfl; kernel_rfl; exact qq; rfl; simp only [zz]; rfl; apply pv 17 22 (bs 18 262143) HT_; rfl; rfl; kernel_rfl; exact qq; rfl; intro w'; go_simp; with_reducible rfl; simp only [zz]; rfl
  refine done_ (done_of HT_.out (by kernel_rfl)) ?_; go_wp2_with fail
  refine start_ (n := 40) (S := fun w' => w'.cell? ⟨g, 1, none⟩ = some (.int .i64 b.own.f1) ∧ w'.cell? ⟨g, 2, none⟩ = some (.int .i64 b.own.f2) ∧ w'.cell? ⟨g, 3, none⟩ = some (.slice AO b.oth.length cO) ∧ w'.cell? ⟨g, 4, none⟩ = some (.slice AG b.giv.length cG)) (ds := []) (bs 40 0) (by kernel_rfl) rfl rfl ⟨c1, c2, c3, c4⟩ (fun hHeld => ?_); refine with_tabW RLeft30.tab3 RLeft30.bits3 (fun HT_ HW_ => ?_); apply pv 0 23 (bs 40 1) HT_; rfl; rfl; kernel_rfl; exact qq; rfl; intro w'; go_simp; with_reducible rfl; simp only [zz]; rfl
  apply pv 1 24 (bs 40 3) HT_; rfl; rfl; kernel_rfl; exact qq; rfl; intro w'; go_simp; with_reducible rfl; simp only [zz]; rfl
  apply pv 2 25 (bs 40 7) HT_; rfl; rfl; kernel_rfl; exact qq; rfl; intro w'; go_simp; with_reducible rfl; simp only [zz]; rfl
  apply pv 3 26 (bs 40 15) HT_; rfl; rfl; kernel_rfl; exact qq; rfl; intro w'; go_simp; with_reducible rfl; simp only [zz]; rfl
  apply tb 4 27 (bs 40 31) HT_ HW_ hHeld; rfl; rfl; kernel_rfl; exact qq; rfl; rintro w' ⟨s0, s1, s2, s3⟩; go_simp; with_reducible rfl; simp only [zz]; rfl
  apply pv 5 28 (bs 40 63) HT_; rfl; rfl; kernel_rfl; exact qq; rfl; intro w'; go_simp; with_reducible rfl; simp only [zz]; rfl
  apply pv 6 29 (bs 40 127) HT_; rfl; rfl; kernel_rfl; exact qq; rfl; intro w'; go_simp; with_reducible rfl; simp only [zz]; rfl
  apply py 7 30 (bs 40 255) HT_; rfl; rfl; kernel_rfl; exact qq; rfl; simp only [zz]; rfl; apply py 8 31 (bs 40 511) HT_; rfl; rfl; kernel_rfl; exact qq; rfl; simp only [zz]; rfl; apply py 9 32 (bs 40 1023) HT_; rfl; rfl; kernel_rfl; exact qq; rfl; simp only [zz]; rfl; apply py 10 33 (bs 40 2047) HT_; rfl; rfl; kernel_rfl; exact qq; rfl; simp only [zz]; rfl; apply py 11 34 (bs 40 4095) HT_; rfl; rfl; kernel_rfl; exact qq; rfl; simp only [zz]; rfl; apply py 12 35 (bs 40 8191) HT_; rfl; rfl; kernel_rfl; exact qq; rfl; simp only [zz]; rfl; apply pv 13 36 (bs 40 16383) HT_; rfl; rfl; kernel_rfl; exact qq; rfl; intro w'; go_simp; with_reducible rfl; simp only [zz]; rfl
  apply pv 14 37 (bs 40 32767) HT_; rfl; rfl; kernel_rfl; exact qq; rfl; intro w'; go_simp; with_reducible rfl; simp only [zz]; rfl
  apply py 15 38 (bs 40 65535) HT_; rfl; rfl; kernel_rfl; exact qq; rfl; simp only [zz]; rfl; apply py 16 39 (bs 40 131071) HT_; rfl; rfl; kernel_rfl; exact qq; rfl; simp only [zz]; rfl; apply py 17 40 (bs 40 262143) HT_; rfl; rfl; kernel_rfl; exact qq; rfl; simp only [zz]; rfl; apply py 18 41 (bs 40 524287) HT_; rfl; rfl; kernel_rfl; exact qq; rfl; simp only [zz]; rfl; apply py 19 42 (bs 40 1048575) HT_; rfl; rfl; kernel_rfl; exact qq; rfl; simp only [zz]; rfl; apply py 20 43 (bs 40 2097151) HT_; rfl; rfl; kernel_rfl; exact qq; rfl; simp only [zz]; rfl; apply py 21 44 (bs 40 4194303) HT_; rfl; rfl; kernel_rfl; exact qq; rfl; simp only [zz]; rfl; apply py 22 45 (bs 40 8388607) HT_; rfl; rfl; kernel_rfl; exact qq; rfl; simp only [zz]; rfl; apply py 23 46 (bs 40 16777215) HT_; rfl; rfl; kernel_rfl; exact qq; rfl; simp only [zz]; rfl; apply py 24 47 (bs 40 33554431) HT_; rfl; rfl; kernel_rfl; exact qq; rfl; simp only [zz]; rfl; apply py 25 48 (bs 40 67108863) HT_; rfl; rfl; kernel_rfl; exact qq; rfl; simp only [zz]; rfl; apply pv 26 49 (bs 40 134217727) HT_; rfl; rfl; kernel_rfl; exact qq; rfl; intro w'; go_simp; with_reducible rfl; simp only [zz]; rfl
  apply pv 27 50 (bs 40 268435455) HT_; rfl; rfl; kernel_rfl; exact qq; rfl; intro w'; go_simp; with_reducible rfl; simp only [zz]; rfl
  apply py 28 51 (bs 40 536870911) HT_; rfl; rfl; kernel_rfl; exact qq; rfl; simp only [zz]; rfl; apply py 29 52 (bs 40 1073741823) HT_; rfl; rfl; kernel_rfl; exact qq; rfl; simp only [zz]; rfl; apply py 30 53 (bs 40 2147483647) HT_; rfl; rfl; kernel_rfl; exact qq; rfl; simp only [zz]; rfl; apply py 31 54 (bs 40 4294967295) HT_; rfl; rfl; kernel_rfl; exact qq; rfl; simp only [zz]; rfl; apply py 32 55 (bs 40 8589934591) HT_; rfl; rfl; kernel_rfl; exact qq; rfl; simp only [zz]; rfl; apply py 33 56 (bs 40 17179869183) HT_; rfl; rfl; kernel_rfl; exact qq; rfl; simp only [zz]; rfl; apply py 34 57 (bs 40 34359738367) HT_; rfl; rfl; kernel_rfl; exact qq; rfl; simp only [zz]; rfl; apply py 35 58 (bs 40 68719476735) HT_; rfl; rfl; kernel_rfl; exact qq; rfl; simp only [zz]; rfl; apply py 36 59 (bs 40 137438953471) HT_; rfl; rfl; kernel_rfl; exact qq; rfl; simp only [zz]; rfl; apply py 37 60 (bs 40 274877906943) HT_; rfl; rfl; kernel_rfl; exact qq; rfl; simp only [zz]; rfl; apply py 38 61 (bs 40 549755813887) HT_; rfl; rfl; kernel_rfl; exact qq; rfl; simp only [zz]; rfl; apply pv 39 62 (bs 40 1099511627775) HT_; rfl; rfl; kernel_rfl; exact qq; rfl; intro w'; go_simp; with_reducible rfl; simp only [zz]; rfl
  refine done_ (done_of HT_.out (by kernel_rfl)) ?_; have HW1 := Lib.hid (show Below w.heap.size w w.drew.drew from below_drew (below_drew (Below.refl w.heap.size w))); have HGT := Lib.hid (blk_below HGB.out HW1.out)
  obtain ⟨WT, hWT⟩ : ∃ WT : World, WT = w.drew.drew := ⟨_, rfl⟩
  rw [← hWT] at HW1 HGT; rw [← hWT]; clear hWT; have z5 : WT.cell? ⟨g, 5, none⟩ = some (.int .i64 b.need.f0) := (blk_cell HGT.out 5).trans rfl; have z6 : WT.cell? ⟨g, 6, none⟩ = some (.int .i64 b.need.f1) := (blk_cell HGT.out 6).trans rfl; go_wp2_with fail
  with_reducible refine (HNL.out WT).mono ?_
  rintro e w7 ⟨v7, rfl, hR7, hb7⟩; have HR7 := Lib.hid (Kd.R_lower hR7 HW1.out.size); have HB7 := Lib.hid (below_then HW1.out HW1.out.size hb7); have HG7 := Lib.hid (blk_below HGT.out hb7); clear hR7 hb7 z5 z6; have z7 : w7.cell? ⟨g, 7, none⟩ = some (.slice AF 0 cF) := (blk_cell HG7.out 7).trans rfl; go_wp2_with fail
  go_loopg [3, 4] 1 (fun gn s3 s4 wr => s3 = v7 ∧ s4 = .int .i64 0 ∧ Aside0 (wr = w7))
  case atStart => exact ⟨rfl, rfl, ⟨rfl⟩⟩
  case round =>
   obtain ⟨rfl, rfl, HWW⟩ := hrel; have hww := HWW.out; subst hww; go_wp2; go_ret; exact ⟨_, rfl, by rw [HGV.out]; exact HR7.out, HB7.out⟩
 case pos =>
 have d1 : (b.own.f1 == 1) = true := beq_iff_eq.2 hst
 obtain ⟨p, hp⟩ : ∃ p, decide (b.own.f2 ∈ b.giv) = p := ⟨_, rfl⟩
 have HPE := Lib.hid hp; have HHP := Lib.hid (fun W (hW : Below w.heap.size w W) => (show Calls Tryz.prog 30 #[.slice AG b.giv.length cG, .int .i64 b.own.f2] W (fun e w' => e = .returned (.bool p) ∧ Below W.heap.size W w') from by have := HHAS.out W hW b.own.f2; rwa [hp] at this)); clear hp; go_enter Tryz.func22, Tryz.ntmps22
 go_wp2_with fail
 refine start_ (n := 18) (S := fun w' => w'.cell? ⟨g, 1, none⟩ = some (.int .i64 b.own.f1) ∧ w'.cell? ⟨g, 2, none⟩ = some (.int .i64 b.own.f2) ∧ w'.cell? ⟨g, 3, none⟩ = some (.slice AO b.oth.length cO) ∧ w'.cell? ⟨g, 4, none⟩ = some (.slice AG b.giv.length cG)) (ds := []) (bs 18 0) (by kernel_rfl) rfl rfl ⟨c1, c2, c3, c4⟩ (fun hHeld => ?_); refine with_tabW RLeft1t.tab1 RLeft1t.bits1 (fun HT_ HW_ => ?_); apply pv 0 5 (bs 18 1) HT_; rfl; rfl; kernel_rfl; exact qq; rfl; intro w'; go_simp; with_reducible rfl; simp only [zz]; rfl
 apply pv 1 6 (bs 18 3) HT_; rfl; rfl; kernel_rfl; exact qq; rfl; intro w'; go_simp; with_reducible rfl; simp only [zz]; rfl
 apply pv 2 7 (bs 18 7) HT_; rfl; rfl; kernel_rfl; exact qq; rfl; intro w'; go_simp; with_reducible rfl; simp only [zz]; rfl
 apply pv 3 8 (bs 18 15) HT_; rfl; rfl; kernel_rfl; exact qq; rfl; intro w'; go_simp; with_reducible rfl; simp only [zz]; rfl
 apply tb 4 9 (bs 18 31) HT_ HW_ hHeld; rfl; rfl; kernel_rfl; exact qq; rfl; rintro w' ⟨s0, s1, s2, s3⟩; go_simp; with_reducible rfl; simp only [zz]; rfl
 apply pv 5 10 (bs 18 63) HT_; rfl; rfl; kernel_rfl; exact qq; rfl; intro w'; go_simp; with_reducible rfl; simp only [zz]; rfl
 apply pv 6 11 (bs 18 127) HT_; rfl; rfl; kernel_rfl; exact qq; rfl; intro w'; go_simp; with_reducible rfl; simp only [zz]; rfl
 apply pv 7 12 (bs 18 255) HT_; rfl; rfl; kernel_rfl; exact qq; rfl; intro w'; go_simp; with_reducible rfl; simp only [zz]; rfl
 apply pv 8 13 (bs 18 511) HT_; rfl; rfl; kernel_rfl; exact qq; rfl; intro w'; go_simp; with_reducible rfl; simp only [zz]; rfl
 apply pv 9 14 (bs 18 1023) HT_; rfl; rfl; kernel_rfl; exact qq; rfl; intro w'; go_simp; with_reducible rfl; simp only [zz]; rfl
 apply pv 11 16 (bs 18 3071) HT_; rfl; rfl; kernel_rfl; exact qq; rfl; intro w'; go_simp; with_reducible rfl; simp only [zz]; rfl
 apply pv 12 17 (bs 18 7167) HT_; rfl; rfl; kernel_rfl; exact qq; rfl; intro w'; go_simp; with_reducible rfl; simp only [zz]; rfl
 apply pv 13 18 (bs 18 15359) HT_; rfl; rfl; kernel_rfl; exact qq; rfl; intro w'; go_simp; with_reducible rfl; simp only [zz]; rfl
 apply pv 14 19 (bs 18 31743) HT_; rfl; rfl; kernel_rfl; exact qq; rfl; intro w'; go_simp; with_reducible rfl; simp only [zz]; rfl
 apply tb 10 15 (bs 18 32767) HT_ HW_ hHeld; rfl; rfl; kernel_rfl; exact qq; rfl; rintro w' ⟨s0, s1, s2, s3⟩; go_simp; with_reducible rfl; simp only [zz]; rfl
 apply tb 15 20 (bs 18 65535) HT_ HW_ hHeld; rfl; rfl; kernel_rfl; exact qq; rfl; rintro w' ⟨s0, s1, s2, s3⟩; go_simp; with_reducible rfl; simp only [zz]; rfl
 refine one_ (i := 16) (N := some 21) (bs 18 131071) rfl rfl (one_of HT_.out (by kernel_rfl)) (by decide) (fun K hK => ?_); refine goes_ Tryz.func30 (by kernel_rfl) rfl #[.slice AG b.giv.length cG, .int .i64 b.own.f2] (by rfl) rfl rfl (by simp only [List.map_toArray, List.map_cons, List.map_nil]; rfl) ?_; with_reducible refine ((HHP.out _ (below_drew (Below.refl _ _)))).mono ?_
 rintro e w1 ⟨rfl, hb1⟩; refine ⟨_, rfl, ?_⟩; have HB1 := Lib.hid (show Below w.heap.size w w1 from below_then (below_drew (Below.refl _ _)) (Nat.le_refl _) hb1); have HG1 := Lib.hid (blk_below HGB.out HB1.out); clear hb1; refine hK.out _ _ ⟨((blk_cell HG1.out 1).trans rfl), ((blk_cell HG1.out 2).trans rfl), ((blk_cell HG1.out 3).trans rfl), ((blk_cell HG1.out 4).trans rfl)⟩ (fun hHeld => ?_); clear hK K; refine norm_ (a' := ?_) ?_ ?_; rotate_left
 ·
  show Act.put _ (some 21) _ = _; simp only [Act.put, List.setIfInBounds_toArray, List.set_cons_zero, List.set_cons_succ, i64_w, i32_w]; rfl
 apply pv 17 22 (bs 18 262143) HT_; rfl; rfl; kernel_rfl; exact qq; rfl; intro w'; go_simp; with_reducible rfl; simp only [zz]; rfl
 refine done_ (done_of HT_.out (by kernel_rfl)) ?_
 cases p with
 | true =>
  have HGV := Lib.hid (show leftR b = [] by unfold leftR gaveR; rw [d1, HPE.out]; rfl); go_wp2; go_ret
  exact ⟨_, rfl, by rw [HGV.out]; exact Kd.R_nil _ _ _ _ _, HB1.out⟩
 | false =>
 have c1 : w1.cell? ⟨g, 1, none⟩ = some (.int .i64 b.own.f1) := (blk_cell HG1.out 1).trans rfl; have c2 : w1.cell? ⟨g, 2, none⟩ = some (.int .i64 b.own.f2) := (blk_cell HG1.out 2).trans rfl; have c3 : w1.cell? ⟨g, 3, none⟩ = some (.slice AO b.oth.length cO) := (blk_cell HG1.out 3).trans rfl; have c4 : w1.cell? ⟨g, 4, none⟩ = some (.slice AG b.giv.length cG) := (blk_cell HG1.out 4).trans rfl
 by_cases hlen : b.oth.length = 2
 case neg =>
  have e2 : ((b.oth.length : Int) == 2) = false := beq_eq_false_iff_ne.2 (by omega); have HGV := Lib.hid (show leftR b = (if b.need.f1 ≤ b.need.f0 then [] else [b.need]) by unfold leftR gaveR; rw [d1, HPE.out, beq_eq_false_iff_ne.2 hlen]; rfl); clear hlen; go_wp2_with fail
  refine start_ (n := 40) (S := fun w' => w'.cell? ⟨g, 1, none⟩ = some (.int .i64 b.own.f1) ∧ w'.cell? ⟨g, 2, none⟩ = some (.int .i64 b.own.f2) ∧ w'.cell? ⟨g, 3, none⟩ = some (.slice AO b.oth.length cO) ∧ w'.cell? ⟨g, 4, none⟩ = some (.slice AG b.giv.length cG)) (ds := []) (bs 40 0) (by kernel_rfl) rfl rfl ⟨c1, c2, c3, c4⟩ (fun hHeld => ?_); refine with_tabW RLeft31.tab3 RLeft31.bits3 (fun HT_ HW_ => ?_); apply pv 0 23 (bs 40 1) HT_; rfl; rfl; kernel_rfl; exact qq; rfl; intro w'; go_simp; with_reducible rfl; simp only [zz]; rfl
  apply pv 1 24 (bs 40 3) HT_; rfl; rfl; kernel_rfl; exact qq; rfl; intro w'; go_simp; with_reducible rfl; simp only [zz]; rfl
  apply pv 2 25 (bs 40 7) HT_; rfl; rfl; kernel_rfl; exact qq; rfl; intro w'; go_simp; with_reducible rfl; simp only [zz]; rfl
  apply pv 3 26 (bs 40 15) HT_; rfl; rfl; kernel_rfl; exact qq; rfl; intro w'; go_simp; with_reducible rfl; simp only [zz]; rfl
  apply tb 4 27 (bs 40 31) HT_ HW_ hHeld; rfl; rfl; kernel_rfl; exact qq; rfl; rintro w' ⟨s0, s1, s2, s3⟩; go_simp; with_reducible rfl; simp only [zz]; rfl
  apply pv 5 28 (bs 40 63) HT_; rfl; rfl; kernel_rfl; exact qq; rfl; intro w'; go_simp; with_reducible rfl; simp only [zz]; rfl
  apply pv 6 29 (bs 40 127) HT_; rfl; rfl; kernel_rfl; exact qq; rfl; intro w'; go_simp; with_reducible rfl; simp only [zz]; rfl
  apply pv 7 30 (bs 40 255) HT_; rfl; rfl; kernel_rfl; exact qq; rfl; intro w'; go_simp; with_reducible rfl; simp only [zz]; rfl
  apply pv 8 31 (bs 40 511) HT_; rfl; rfl; kernel_rfl; exact qq; rfl; intro w'; go_simp; with_reducible rfl; simp only [zz]; rfl
  apply pv 9 32 (bs 40 1023) HT_; rfl; rfl; kernel_rfl; exact qq; rfl; intro w'; go_simp; with_reducible rfl; simp only [zz]; rfl
  apply tb 10 33 (bs 40 2047) HT_ HW_ hHeld; rfl; rfl; kernel_rfl; exact qq; rfl; rintro w' ⟨s0, s1, s2, s3⟩; go_simp; with_reducible rfl; simp only [zz]; rfl
  apply pv 11 34 (bs 40 4095) HT_; rfl; rfl; kernel_rfl; exact qq; rfl; intro w'; go_simp; with_reducible rfl; simp only [zz]; rfl
  apply pv 12 35 (bs 40 8191) HT_; rfl; rfl; kernel_rfl; exact qq; rfl; intro w'; go_simp; with_reducible rfl; simp only [zz]; rfl
  apply pv 13 36 (bs 40 16383) HT_; rfl; rfl; kernel_rfl; exact qq; rfl; intro w'; go_simp; with_reducible rfl; simp only [zz]; rfl
  apply pv 14 37 (bs 40 32767) HT_; rfl; rfl; kernel_rfl; exact qq; rfl; intro w'; go_simp; with_reducible rfl; simp only [zz]; rfl
  apply py 15 38 (bs 40 65535) HT_; rfl; rfl; kernel_rfl; exact qq; rfl; simp only [zz]; rfl; apply py 16 39 (bs 40 131071) HT_; rfl; rfl; kernel_rfl; exact qq; rfl; simp only [zz]; rfl; apply py 17 40 (bs 40 262143) HT_; rfl; rfl; kernel_rfl; exact qq; rfl; simp only [zz]; rfl; apply py 18 41 (bs 40 524287) HT_; rfl; rfl; kernel_rfl; exact qq; rfl; simp only [zz]; rfl; apply py 19 42 (bs 40 1048575) HT_; rfl; rfl; kernel_rfl; exact qq; rfl; simp only [zz]; rfl; apply py 20 43 (bs 40 2097151) HT_; rfl; rfl; kernel_rfl; exact qq; rfl; simp only [zz]; rfl; apply py 21 44 (bs 40 4194303) HT_; rfl; rfl; kernel_rfl; exact qq; rfl; simp only [zz]; rfl; apply py 22 45 (bs 40 8388607) HT_; rfl; rfl; kernel_rfl; exact qq; rfl; simp only [zz]; rfl; apply py 23 46 (bs 40 16777215) HT_; rfl; rfl; kernel_rfl; exact qq; rfl; simp only [zz]; rfl; apply py 24 47 (bs 40 33554431) HT_; rfl; rfl; kernel_rfl; exact qq; rfl; simp only [zz]; rfl; apply py 25 48 (bs 40 67108863) HT_; rfl; rfl; kernel_rfl; exact qq; rfl; simp only [zz]; rfl; apply pv 26 49 (bs 40 134217727) HT_; rfl; rfl; kernel_rfl; exact qq; rfl; intro w'; go_simp; with_reducible rfl; simp only [zz]; rfl
  apply pv 27 50 (bs 40 268435455) HT_; rfl; rfl; kernel_rfl; exact qq; rfl; intro w'; go_simp; with_reducible rfl; simp only [zz]; rfl
  apply py 28 51 (bs 40 536870911) HT_; rfl; rfl; kernel_rfl; exact qq; rfl; simp only [zz]; rfl; apply py 29 52 (bs 40 1073741823) HT_; rfl; rfl; kernel_rfl; exact qq; rfl; simp only [zz]; rfl; apply py 30 53 (bs 40 2147483647) HT_; rfl; rfl; kernel_rfl; exact qq; rfl; simp only [zz]; rfl; apply py 31 54 (bs 40 4294967295) HT_; rfl; rfl; kernel_rfl; exact qq; rfl; simp only [zz]; rfl; apply py 32 55 (bs 40 8589934591) HT_; rfl; rfl; kernel_rfl; exact qq; rfl; simp only [zz]; rfl; apply py 33 56 (bs 40 17179869183) HT_; rfl; rfl; kernel_rfl; exact qq; rfl; simp only [zz]; rfl; apply py 34 57 (bs 40 34359738367) HT_; rfl; rfl; kernel_rfl; exact qq; rfl; simp only [zz]; rfl; apply py 35 58 (bs 40 68719476735) HT_; rfl; rfl; kernel_rfl; exact qq; rfl; simp only [zz]; rfl; apply py 36 59 (bs 40 137438953471) HT_; rfl; rfl; kernel_rfl; exact qq; rfl; simp only [zz]; rfl; apply py 37 60 (bs 40 274877906943) HT_; rfl; rfl; kernel_rfl; exact qq; rfl; simp only [zz]; rfl; apply py 38 61 (bs 40 549755813887) HT_; rfl; rfl; kernel_rfl; exact qq; rfl; simp only [zz]; rfl; apply pv 39 62 (bs 40 1099511627775) HT_; rfl; rfl; kernel_rfl; exact qq; rfl; intro w'; go_simp; with_reducible rfl; simp only [zz]; rfl
  refine done_ (done_of HT_.out (by kernel_rfl)) ?_; have HW1 := Lib.hid (show Below w.heap.size w w1.drew from below_drew HB1.out); have HGT := Lib.hid (blk_below HGB.out HW1.out)
  obtain ⟨WT, hWT⟩ : ∃ WT : World, WT = w1.drew := ⟨_, rfl⟩
  rw [← hWT] at HW1 HGT; rw [← hWT]; clear hWT; have z5 : WT.cell? ⟨g, 5, none⟩ = some (.int .i64 b.need.f0) := (blk_cell HGT.out 5).trans rfl; have z6 : WT.cell? ⟨g, 6, none⟩ = some (.int .i64 b.need.f1) := (blk_cell HGT.out 6).trans rfl; go_wp2_with fail
  with_reducible refine (HNL.out WT).mono ?_
  rintro e w7 ⟨v7, rfl, hR7, hb7⟩; have HR7 := Lib.hid (Kd.R_lower hR7 HW1.out.size); have HB7 := Lib.hid (below_then HW1.out HW1.out.size hb7); have HG7 := Lib.hid (blk_below HGT.out hb7); clear hR7 hb7 z5 z6; have z7 : w7.cell? ⟨g, 7, none⟩ = some (.slice AF 0 cF) := (blk_cell HG7.out 7).trans rfl; go_wp2_with fail
  go_loopg [3, 4] 1 (fun gn s3 s4 wr => s3 = v7 ∧ s4 = .int .i64 0 ∧ Aside0 (wr = w7))
  case atStart => exact ⟨rfl, rfl, ⟨rfl⟩⟩
  case round =>
   obtain ⟨rfl, rfl, HWW⟩ := hrel; have hww := HWW.out; subst hww; go_wp2; go_ret; exact ⟨_, rfl, by rw [HGV.out]; exact HR7.out, HB7.out⟩
 case pos =>
 have e2 : ((b.oth.length : Int) == 2) = true := beq_iff_eq.2 (by omega)
 obtain ⟨x, hx0⟩ : ∃ x, rd b.oth 0 = x := ⟨_, rfl⟩
 obtain ⟨y, hy0⟩ : ∃ y, rd b.oth 1 = y := ⟨_, rfl⟩
 have hx1 : b.oth.getD 0 0 = x := hx0; have hy1 : b.oth.getD 1 0 = y := hy0; have HRO1 := Lib.hid (Kd.R_below HRO.out HB1.out)
 obtain ⟨ga, rfl⟩ : ∃ ga, AO = some ⟨ga, 0, none⟩ := by
  obtain ⟨inner, ho⟩ := Kd.R_own HRO.out
  rcases ho with ⟨_, ⟨e, h0⟩ | ⟨gb, cap, cur, e, _⟩⟩
  ·
   omega
  ·
   injection e with e _ _; exact ⟨gb, e⟩
 have cx : w1.cell? ⟨ga, 0, none⟩ = some (.int .i64 x) := by
  obtain ⟨a, ha, hc⟩ := Kd.at_int (Kd.R_reads' HRO1.out).2.2 0 (by omega) (by omega); cases ha; rw [← hx0]; exact hc
 have cy : w1.cell? ⟨ga, 1, none⟩ = some (.int .i64 y) := by
  obtain ⟨a, ha, hc⟩ := Kd.at_int (Kd.R_reads' HRO1.out).2.2 1 (by omega) (by omega); cases ha; rw [← hy0]; exact hc
 obtain ⟨px, hpx⟩ : ∃ p, decide (x ∈ b.giv) = p := ⟨_, rfl⟩
 have HHX := Lib.hid (fun W (hW : Below w.heap.size w W) => (show Calls Tryz.prog 30 #[.slice AG b.giv.length cG, .int .i64 x] W (fun e w' => e = .returned (.bool px) ∧ Below W.heap.size W w') from by have := HHAS.out W hW x; rwa [hpx] at this))
 cases px with
 | false =>
  have HGV := Lib.hid (show leftR b = (if b.need.f1 ≤ b.need.f0 then [] else [b.need]) by unfold leftR gaveR; rw [d1, HPE.out, hx1, hpx, Bool.and_false]; rfl); clear hx0 hy0 hx1 hy1 hpx; go_wp2_with fail
  refine start_ (n := 40) (S := fun w' => w'.cell? ⟨g, 1, none⟩ = some (.int .i64 b.own.f1) ∧ w'.cell? ⟨g, 2, none⟩ = some (.int .i64 b.own.f2) ∧ w'.cell? ⟨g, 3, none⟩ = some (.slice (some ⟨ga, 0, none⟩) b.oth.length cO) ∧ w'.cell? ⟨g, 4, none⟩ = some (.slice AG b.giv.length cG) ∧ w'.cell? ⟨ga, 0, none⟩ = some (.int .i64 x) ∧ w'.cell? ⟨ga, 1, none⟩ = some (.int .i64 y)) (ds := []) (bs 40 0) (by kernel_rfl) rfl rfl ⟨c1, c2, c3, c4, cx, cy⟩ (fun hHeld => ?_); refine with_tabW RLeft32.tab3 RLeft32.bits3 (fun HT_ HW_ => ?_); apply pv 0 23 (bs 40 1) HT_; rfl; rfl; kernel_rfl; exact qq; rfl; intro w'; go_simp; with_reducible rfl; simp only [zz]; rfl
  apply pv 1 24 (bs 40 3) HT_; rfl; rfl; kernel_rfl; exact qq; rfl; intro w'; go_simp; with_reducible rfl; simp only [zz]; rfl
  apply pv 2 25 (bs 40 7) HT_; rfl; rfl; kernel_rfl; exact qq; rfl; intro w'; go_simp; with_reducible rfl; simp only [zz]; rfl
  apply pv 3 26 (bs 40 15) HT_; rfl; rfl; kernel_rfl; exact qq; rfl; intro w'; go_simp; with_reducible rfl; simp only [zz]; rfl
  apply tb 4 27 (bs 40 31) HT_ HW_ hHeld; rfl; rfl; kernel_rfl; exact qq; rfl; rintro w' ⟨s0, s1, s2, s3, s4, s5⟩; go_simp; with_reducible rfl; simp only [zz]; rfl
  apply pv 5 28 (bs 40 63) HT_; rfl; rfl; kernel_rfl; exact qq; rfl; intro w'; go_simp; with_reducible rfl; simp only [zz]; rfl
  apply pv 6 29 (bs 40 127) HT_; rfl; rfl; kernel_rfl; exact qq; rfl; intro w'; go_simp; with_reducible rfl; simp only [zz]; rfl
  apply pv 7 30 (bs 40 255) HT_; rfl; rfl; kernel_rfl; exact qq; rfl; intro w'; go_simp; with_reducible rfl; simp only [zz]; rfl
  apply pv 8 31 (bs 40 511) HT_; rfl; rfl; kernel_rfl; exact qq; rfl; intro w'; go_simp; with_reducible rfl; simp only [zz]; rfl
  apply pv 9 32 (bs 40 1023) HT_; rfl; rfl; kernel_rfl; exact qq; rfl; intro w'; go_simp; with_reducible rfl; simp only [zz]; rfl
  apply tb 10 33 (bs 40 2047) HT_ HW_ hHeld; rfl; rfl; kernel_rfl; exact qq; rfl; rintro w' ⟨s0, s1, s2, s3, s4, s5⟩; go_simp; with_reducible rfl; simp only [zz]; rfl
  apply pv 11 34 (bs 40 4095) HT_; rfl; rfl; kernel_rfl; exact qq; rfl; intro w'; go_simp; with_reducible rfl; simp only [zz]; rfl
  apply pv 12 35 (bs 40 8191) HT_; rfl; rfl; kernel_rfl; exact qq; rfl; intro w'; go_simp; with_reducible rfl; simp only [zz]; rfl
  apply pv 13 36 (bs 40 16383) HT_; rfl; rfl; kernel_rfl; exact qq; rfl; intro w'; go_simp; with_reducible rfl; simp only [zz]; rfl
  apply pv 14 37 (bs 40 32767) HT_; rfl; rfl; kernel_rfl; exact qq; rfl; intro w'; go_simp; with_reducible rfl; simp only [zz]; rfl
  apply pv 15 38 (bs 40 65535) HT_; rfl; rfl; kernel_rfl; exact qq; rfl; intro w'; go_simp; with_reducible rfl; simp only [zz]; rfl
  apply pv 16 39 (bs 40 131071) HT_; rfl; rfl; kernel_rfl; exact qq; rfl; intro w'; go_simp; with_reducible rfl; simp only [zz]; rfl
  apply pv 17 40 (bs 40 262143) HT_; rfl; rfl; kernel_rfl; exact qq; rfl; intro w'; go_simp; with_reducible rfl; simp only [zz]; rfl
  apply pv 19 42 (bs 40 786431) HT_; rfl; rfl; kernel_rfl; exact qq; rfl; intro w'; go_simp; with_reducible rfl; simp only [zz]; rfl
  apply pv 20 43 (bs 40 1835007) HT_; rfl; rfl; kernel_rfl; exact qq; rfl; intro w'; go_simp; with_reducible rfl; simp only [zz]; rfl
  apply pv 21 44 (bs 40 3932159) HT_; rfl; rfl; kernel_rfl; exact qq; rfl; intro w'; go_simp; with_reducible rfl; simp only [zz]; rfl
  apply tb 18 41 (bs 40 4194303) HT_ HW_ hHeld; rfl; rfl; kernel_rfl; exact qq; rfl; rintro w' ⟨s0, s1, s2, s3, s4, s5⟩; go_simp; with_reducible rfl; simp only [zz]; rfl
  apply tb 22 45 (bs 40 8388607) HT_ HW_ hHeld; rfl; rfl; kernel_rfl; exact qq; rfl; rintro w' ⟨s0, s1, s2, s3, s4, s5⟩; go_simp; with_reducible rfl; simp only [zz]; rfl
  apply pv 23 46 (bs 40 16777215) HT_; rfl; rfl; kernel_rfl; exact qq; rfl; intro w'; go_simp; with_reducible rfl; simp only [zz]; rfl
  apply tb 24 47 (bs 40 33554431) HT_ HW_ hHeld; rfl; rfl; kernel_rfl; exact qq; rfl; rintro w' ⟨s0, s1, s2, s3, s4, s5⟩; go_simp; with_reducible rfl; simp only [zz]; rfl
  refine one_ (i := 25) (N := some 48) (bs 40 67108863) rfl rfl (one_of HT_.out (by kernel_rfl)) (by decide) (fun K hK => ?_); refine goes_ Tryz.func30 (by kernel_rfl) rfl #[.slice AG b.giv.length cG, .int .i64 x] (by rfl) rfl rfl (by simp only [List.map_toArray, List.map_cons, List.map_nil]; rfl) ?_; with_reducible refine ((HHX.out _ (below_drew HB1.out))).mono ?_
  rintro e w2 ⟨rfl, hb2⟩; refine ⟨_, rfl, ?_⟩; have HB2 := Lib.hid (show Below w.heap.size w w2 from below_then (below_drew HB1.out) HB1.out.size hb2); have hq2 : Below w1.heap.size w1 w2 := below_then (below_drew (Below.refl _ _)) (Nat.le_refl _) hb2; have HG2 := Lib.hid (blk_below HGB.out HB2.out); clear hb2; refine hK.out _ _ ⟨((blk_cell HG2.out 1).trans rfl), ((blk_cell HG2.out 2).trans rfl), ((blk_cell HG2.out 3).trans rfl), ((blk_cell HG2.out 4).trans rfl), (pw_cell_below hq2 cx), (pw_cell_below hq2 cy)⟩ (fun hHeld => ?_); clear hK K; refine norm_ (a' := ?_) ?_ ?_; rotate_left
  ·
   show Act.put _ (some 48) _ = _; simp only [Act.put, List.setIfInBounds_toArray, List.set_cons_zero, List.set_cons_succ, i64_w, i32_w]; rfl
  apply pv 26 49 (bs 40 134217727) HT_; rfl; rfl; kernel_rfl; exact qq; rfl; intro w'; go_simp; with_reducible rfl; simp only [zz]; rfl
  apply pv 27 50 (bs 40 268435455) HT_; rfl; rfl; kernel_rfl; exact qq; rfl; intro w'; go_simp; with_reducible rfl; simp only [zz]; rfl
  apply py 28 51 (bs 40 536870911) HT_; rfl; rfl; kernel_rfl; exact qq; rfl; simp only [zz]; rfl; apply py 29 52 (bs 40 1073741823) HT_; rfl; rfl; kernel_rfl; exact qq; rfl; simp only [zz]; rfl; apply py 30 53 (bs 40 2147483647) HT_; rfl; rfl; kernel_rfl; exact qq; rfl; simp only [zz]; rfl; apply py 31 54 (bs 40 4294967295) HT_; rfl; rfl; kernel_rfl; exact qq; rfl; simp only [zz]; rfl; apply py 32 55 (bs 40 8589934591) HT_; rfl; rfl; kernel_rfl; exact qq; rfl; simp only [zz]; rfl; apply py 33 56 (bs 40 17179869183) HT_; rfl; rfl; kernel_rfl; exact qq; rfl; simp only [zz]; rfl; apply py 34 57 (bs 40 34359738367) HT_; rfl; rfl; kernel_rfl; exact qq; rfl; simp only [zz]; rfl; apply py 35 58 (bs 40 68719476735) HT_; rfl; rfl; kernel_rfl; exact qq; rfl; simp only [zz]; rfl; apply py 36 59 (bs 40 137438953471) HT_; rfl; rfl; kernel_rfl; exact qq; rfl; simp only [zz]; rfl; apply py 37 60 (bs 40 274877906943) HT_; rfl; rfl; kernel_rfl; exact qq; rfl; simp only [zz]; rfl; apply py 38 61 (bs 40 549755813887) HT_; rfl; rfl; kernel_rfl; exact qq; rfl; simp only [zz]; rfl; apply pv 39 62 (bs 40 1099511627775) HT_; rfl; rfl; kernel_rfl; exact qq; rfl; intro w'; go_simp; with_reducible rfl; simp only [zz]; rfl
  refine done_ (done_of HT_.out (by kernel_rfl)) ?_; have HW1 := Lib.hid HB2.out; have HGT := Lib.hid (blk_below HGB.out HW1.out)
  obtain ⟨WT, hWT⟩ : ∃ WT : World, WT = w2 := ⟨_, rfl⟩
  rw [← hWT] at HW1 HGT; rw [← hWT]; clear hWT; have z5 : WT.cell? ⟨g, 5, none⟩ = some (.int .i64 b.need.f0) := (blk_cell HGT.out 5).trans rfl; have z6 : WT.cell? ⟨g, 6, none⟩ = some (.int .i64 b.need.f1) := (blk_cell HGT.out 6).trans rfl; go_wp2_with fail
  with_reducible refine (HNL.out WT).mono ?_
  rintro e w7 ⟨v7, rfl, hR7, hb7⟩; have HR7 := Lib.hid (Kd.R_lower hR7 HW1.out.size); have HB7 := Lib.hid (below_then HW1.out HW1.out.size hb7); have HG7 := Lib.hid (blk_below HGT.out hb7); clear hR7 hb7 z5 z6; have z7 : w7.cell? ⟨g, 7, none⟩ = some (.slice AF 0 cF) := (blk_cell HG7.out 7).trans rfl; go_wp2_with fail
  go_loopg [3, 4] 1 (fun gn s3 s4 wr => s3 = v7 ∧ s4 = .int .i64 0 ∧ Aside0 (wr = w7))
  case atStart => exact ⟨rfl, rfl, ⟨rfl⟩⟩
  case round =>
   obtain ⟨rfl, rfl, HWW⟩ := hrel; have hww := HWW.out; subst hww; go_wp2; go_ret
   exact ⟨_, rfl, by rw [HGV.out]; exact HR7.out, HB7.out⟩
 | true =>
 obtain ⟨py, hpy⟩ : ∃ p, decide (y ∈ b.giv) = p := ⟨_, rfl⟩
 have HHY := Lib.hid (fun W (hW : Below w.heap.size w W) => (show Calls Tryz.prog 30 #[.slice AG b.giv.length cG, .int .i64 y] W (fun e w' => e = .returned (.bool py) ∧ Below W.heap.size W w') from by have := HHAS.out W hW y; rwa [hpy] at this)); have HGV0 := Lib.hid (show gaveR b = py by unfold gaveR; rw [d1, HPE.out, hx1, hy1, hpx, hpy, hlen]; cases py <;> rfl); clear hx0 hy0 hx1 hy1 hpx hpy; go_wp2_with fail
 refine start_ (n := 40) (S := fun w' => w'.cell? ⟨g, 1, none⟩ = some (.int .i64 b.own.f1) ∧ w'.cell? ⟨g, 2, none⟩ = some (.int .i64 b.own.f2) ∧ w'.cell? ⟨g, 3, none⟩ = some (.slice (some ⟨ga, 0, none⟩) b.oth.length cO) ∧ w'.cell? ⟨g, 4, none⟩ = some (.slice AG b.giv.length cG) ∧ w'.cell? ⟨ga, 0, none⟩ = some (.int .i64 x) ∧ w'.cell? ⟨ga, 1, none⟩ = some (.int .i64 y)) (ds := []) (bs 40 0) (by kernel_rfl) rfl rfl ⟨c1, c2, c3, c4, cx, cy⟩ (fun hHeld => ?_); refine with_tabW RLeft33.tab3 RLeft33.bits3 (fun HT_ HW_ => ?_); apply pv 0 23 (bs 40 1) HT_; rfl; rfl; kernel_rfl; exact qq; rfl; intro w'; go_simp; with_reducible rfl; simp only [zz]; rfl
 apply pv 1 24 (bs 40 3) HT_; rfl; rfl; kernel_rfl; exact qq; rfl; intro w'; go_simp; with_reducible rfl; simp only [zz]; rfl
 apply pv 2 25 (bs 40 7) HT_; rfl; rfl; kernel_rfl; exact qq; rfl; intro w'; go_simp; with_reducible rfl; simp only [zz]; rfl
 apply pv 3 26 (bs 40 15) HT_; rfl; rfl; kernel_rfl; exact qq; rfl; intro w'; go_simp; with_reducible rfl; simp only [zz]; rfl
 apply tb 4 27 (bs 40 31) HT_ HW_ hHeld; rfl; rfl; kernel_rfl; exact qq; rfl; rintro w' ⟨s0, s1, s2, s3, s4, s5⟩; go_simp; with_reducible rfl; simp only [zz]; rfl
 apply pv 5 28 (bs 40 63) HT_; rfl; rfl; kernel_rfl; exact qq; rfl; intro w'; go_simp; with_reducible rfl; simp only [zz]; rfl
 apply pv 6 29 (bs 40 127) HT_; rfl; rfl; kernel_rfl; exact qq; rfl; intro w'; go_simp; with_reducible rfl; simp only [zz]; rfl
 apply pv 7 30 (bs 40 255) HT_; rfl; rfl; kernel_rfl; exact qq; rfl; intro w'; go_simp; with_reducible rfl; simp only [zz]; rfl
 apply pv 8 31 (bs 40 511) HT_; rfl; rfl; kernel_rfl; exact qq; rfl; intro w'; go_simp; with_reducible rfl; simp only [zz]; rfl
 apply pv 9 32 (bs 40 1023) HT_; rfl; rfl; kernel_rfl; exact qq; rfl; intro w'; go_simp; with_reducible rfl; simp only [zz]; rfl
 apply tb 10 33 (bs 40 2047) HT_ HW_ hHeld; rfl; rfl; kernel_rfl; exact qq; rfl; rintro w' ⟨s0, s1, s2, s3, s4, s5⟩; go_simp; with_reducible rfl; simp only [zz]; rfl
 apply pv 11 34 (bs 40 4095) HT_; rfl; rfl; kernel_rfl; exact qq; rfl; intro w'; go_simp; with_reducible rfl; simp only [zz]; rfl
 apply pv 12 35 (bs 40 8191) HT_; rfl; rfl; kernel_rfl; exact qq; rfl; intro w'; go_simp; with_reducible rfl; simp only [zz]; rfl
 apply pv 13 36 (bs 40 16383) HT_; rfl; rfl; kernel_rfl; exact qq; rfl; intro w'; go_simp; with_reducible rfl; simp only [zz]; rfl
 apply pv 14 37 (bs 40 32767) HT_; rfl; rfl; kernel_rfl; exact qq; rfl; intro w'; go_simp; with_reducible rfl; simp only [zz]; rfl
 apply pv 15 38 (bs 40 65535) HT_; rfl; rfl; kernel_rfl; exact qq; rfl; intro w'; go_simp; with_reducible rfl; simp only [zz]; rfl
 apply pv 16 39 (bs 40 131071) HT_; rfl; rfl; kernel_rfl; exact qq; rfl; intro w'; go_simp; with_reducible rfl; simp only [zz]; rfl
 apply pv 17 40 (bs 40 262143) HT_; rfl; rfl; kernel_rfl; exact qq; rfl; intro w'; go_simp; with_reducible rfl; simp only [zz]; rfl
 apply pv 19 42 (bs 40 786431) HT_; rfl; rfl; kernel_rfl; exact qq; rfl; intro w'; go_simp; with_reducible rfl; simp only [zz]; rfl
 apply pv 20 43 (bs 40 1835007) HT_; rfl; rfl; kernel_rfl; exact qq; rfl; intro w'; go_simp; with_reducible rfl; simp only [zz]; rfl
 apply pv 21 44 (bs 40 3932159) HT_; rfl; rfl; kernel_rfl; exact qq; rfl; intro w'; go_simp; with_reducible rfl; simp only [zz]; rfl
 apply tb 18 41 (bs 40 4194303) HT_ HW_ hHeld; rfl; rfl; kernel_rfl; exact qq; rfl; rintro w' ⟨s0, s1, s2, s3, s4, s5⟩; go_simp; with_reducible rfl; simp only [zz]; rfl
 apply tb 22 45 (bs 40 8388607) HT_ HW_ hHeld; rfl; rfl; kernel_rfl; exact qq; rfl; rintro w' ⟨s0, s1, s2, s3, s4, s5⟩; go_simp; with_reducible rfl; simp only [zz]; rfl
 apply pv 23 46 (bs 40 16777215) HT_; rfl; rfl; kernel_rfl; exact qq; rfl; intro w'; go_simp; with_reducible rfl; simp only [zz]; rfl
 apply tb 24 47 (bs 40 33554431) HT_ HW_ hHeld; rfl; rfl; kernel_rfl; exact qq; rfl; rintro w' ⟨s0, s1, s2, s3, s4, s5⟩; go_simp; with_reducible rfl; simp only [zz]; rfl
 refine one_ (i := 25) (N := some 48) (bs 40 67108863) rfl rfl (one_of HT_.out (by kernel_rfl)) (by decide) (fun K hK => ?_); refine goes_ Tryz.func30 (by kernel_rfl) rfl #[.slice AG b.giv.length cG, .int .i64 x] (by rfl) rfl rfl (by simp only [List.map_toArray, List.map_cons, List.map_nil]; rfl) ?_; with_reducible refine ((HHX.out _ (below_drew HB1.out))).mono ?_
 rintro e w2 ⟨rfl, hb2⟩; refine ⟨_, rfl, ?_⟩; have HB2 := Lib.hid (show Below w.heap.size w w2 from below_then (below_drew HB1.out) HB1.out.size hb2); have hq2 : Below w1.heap.size w1 w2 := below_then (below_drew (Below.refl _ _)) (Nat.le_refl _) hb2; have HG2 := Lib.hid (blk_below HGB.out HB2.out); clear hb2; refine hK.out _ _ ⟨((blk_cell HG2.out 1).trans rfl), ((blk_cell HG2.out 2).trans rfl), ((blk_cell HG2.out 3).trans rfl), ((blk_cell HG2.out 4).trans rfl), (pw_cell_below hq2 cx), (pw_cell_below hq2 cy)⟩ (fun hHeld => ?_); clear hK K; refine norm_ (a' := ?_) ?_ ?_; rotate_left
 ·
  show Act.put _ (some 48) _ = _; simp only [Act.put, List.setIfInBounds_toArray, List.set_cons_zero, List.set_cons_succ, i64_w, i32_w]; rfl
 apply pv 26 49 (bs 40 134217727) HT_; rfl; rfl; kernel_rfl; exact qq; rfl; intro w'; go_simp; with_reducible rfl; simp only [zz]; rfl
 apply pv 27 50 (bs 40 268435455) HT_; rfl; rfl; kernel_rfl; exact qq; rfl; intro w'; go_simp; with_reducible rfl; simp only [zz]; rfl
 apply pv 28 51 (bs 40 536870911) HT_; rfl; rfl; kernel_rfl; exact qq; rfl; intro w'; go_simp; with_reducible rfl; simp only [zz]; rfl
 apply pv 29 52 (bs 40 1073741823) HT_; rfl; rfl; kernel_rfl; exact qq; rfl; intro w'; go_simp; with_reducible rfl; simp only [zz]; rfl
 apply pv 30 53 (bs 40 2147483647) HT_; rfl; rfl; kernel_rfl; exact qq; rfl; intro w'; go_simp; with_reducible rfl; simp only [zz]; rfl
 apply pv 32 55 (bs 40 6442450943) HT_; rfl; rfl; kernel_rfl; exact qq; rfl; intro w'; go_simp; with_reducible rfl; simp only [zz]; rfl
 apply pv 33 56 (bs 40 15032385535) HT_; rfl; rfl; kernel_rfl; exact qq; rfl; intro w'; go_simp; with_reducible rfl; simp only [zz]; rfl
 apply pv 34 57 (bs 40 32212254719) HT_; rfl; rfl; kernel_rfl; exact qq; rfl; intro w'; go_simp; with_reducible rfl; simp only [zz]; rfl
 apply tb 31 54 (bs 40 34359738367) HT_ HW_ hHeld; rfl; rfl; kernel_rfl; exact qq; rfl; rintro w' ⟨s0, s1, s2, s3, s4, s5⟩; go_simp; with_reducible rfl; simp only [zz]; rfl
 apply tb 35 58 (bs 40 68719476735) HT_ HW_ hHeld; rfl; rfl; kernel_rfl; exact qq; rfl; rintro w' ⟨s0, s1, s2, s3, s4, s5⟩; go_simp; with_reducible rfl; simp only [zz]; rfl
 apply pv 36 59 (bs 40 137438953471) HT_; rfl; rfl; kernel_rfl; exact qq; rfl; intro w'; go_simp; with_reducible rfl; simp only [zz]; rfl
 apply tb 37 60 (bs 40 274877906943) HT_ HW_ hHeld; rfl; rfl; kernel_rfl; exact qq; rfl; rintro w' ⟨s0, s1, s2, s3, s4, s5⟩; go_simp; with_reducible rfl; simp only [zz]; rfl
 refine one_ (i := 38) (N := some 61) (bs 40 549755813887) rfl rfl (one_of HT_.out (by kernel_rfl)) (by decide) (fun K hK => ?_); refine goes_ Tryz.func30 (by kernel_rfl) rfl #[.slice AG b.giv.length cG, .int .i64 y] (by rfl) rfl rfl (by simp only [List.map_toArray, List.map_cons, List.map_nil]; rfl) ?_; with_reducible refine ((HHY.out _ (HB2.out))).mono ?_
 rintro e w3 ⟨rfl, hb3⟩; refine ⟨_, rfl, ?_⟩; have HB3 := Lib.hid (show Below w.heap.size w w3 from below_then (HB2.out) HB2.out.size hb3); have hq3 : Below w1.heap.size w1 w3 := below_then hq2 hq2.size hb3; have HG3 := Lib.hid (blk_below HGB.out HB3.out); clear hb3; refine hK.out _ _ ⟨((blk_cell HG3.out 1).trans rfl), ((blk_cell HG3.out 2).trans rfl), ((blk_cell HG3.out 3).trans rfl), ((blk_cell HG3.out 4).trans rfl), (pw_cell_below hq3 cx), (pw_cell_below hq3 cy)⟩ (fun hHeld => ?_); clear hK K; refine norm_ (a' := ?_) ?_ ?_; rotate_left
 ·
  show Act.put _ (some 61) _ = _; simp only [Act.put, List.setIfInBounds_toArray, List.set_cons_zero, List.set_cons_succ, i64_w, i32_w]; rfl
 apply pv 39 62 (bs 40 1099511627775) HT_; rfl; rfl; kernel_rfl; exact qq; rfl; intro w'; go_simp; with_reducible rfl; simp only [zz]; rfl
 refine done_ (done_of HT_.out (by kernel_rfl)) ?_
 cases py with
 | false =>
  have HGV := Lib.hid (show leftR b = (if b.need.f1 ≤ b.need.f0 then [] else [b.need]) by unfold leftR; rw [HGV0.out]; rfl); have HW1 := Lib.hid HB3.out; have HGT := Lib.hid (blk_below HGB.out HW1.out)
  obtain ⟨WT, hWT⟩ : ∃ WT : World, WT = w3 := ⟨_, rfl⟩
  rw [← hWT] at HW1 HGT; rw [← hWT]; clear hWT; have z5 : WT.cell? ⟨g, 5, none⟩ = some (.int .i64 b.need.f0) := (blk_cell HGT.out 5).trans rfl; have z6 : WT.cell? ⟨g, 6, none⟩ = some (.int .i64 b.need.f1) := (blk_cell HGT.out 6).trans rfl; go_wp2_with fail
  with_reducible refine (HNL.out WT).mono ?_
  rintro e w7 ⟨v7, rfl, hR7, hb7⟩; have HR7 := Lib.hid (Kd.R_lower hR7 HW1.out.size); have HB7 := Lib.hid (below_then HW1.out HW1.out.size hb7); have HG7 := Lib.hid (blk_below HGT.out hb7); clear hR7 hb7 z5 z6; have z7 : w7.cell? ⟨g, 7, none⟩ = some (.slice AF 0 cF) := (blk_cell HG7.out 7).trans rfl; go_wp2_with fail
  go_loopg [3, 4] 1 (fun gn s3 s4 wr => s3 = v7 ∧ s4 = .int .i64 0 ∧ Aside0 (wr = w7))
  case atStart => exact ⟨rfl, rfl, ⟨rfl⟩⟩
  case round =>
   obtain ⟨rfl, rfl, HWW⟩ := hrel; have hww := HWW.out; subst hww; go_wp2; go_ret
   exact ⟨_, rfl, by rw [HGV.out]; exact HR7.out, HB7.out⟩
 | true =>
  have HGV := Lib.hid (show leftR b = [] by unfold leftR; rw [HGV0.out]; rfl); go_wp2; go_ret; exact ⟨_, rfl, by rw [HGV.out]; exact Kd.R_nil _ _ _ _ _, HB3.out⟩
theorem rdone_calls (w : World) (B g : Nat) (vO vG vF vS : Value) (b : Rb) (h : Rs w B g vO vG vF vS b) (ho : b.oth.length ≤ 1000000) (hg : b.giv.length ≤ 1000000) (hf : b.fil = []) :
  Calls Tryz.prog 19 #[.pointer (some ⟨g, 0, none⟩)] w fun e w' => e = .returned (.bool (decide (leftR b = []))) ∧ Below w.heap.size w w' := by
 have HL := Lib.hid (rleft_calls w B g vO vG vF vS b h ho hg hf); clear h ho hg hf; go_enter Tryz.func19, Tryz.ntmps19
 go_wp2_with fail
 with_reducible refine HL.out.mono ?_
 rintro e w1 ⟨v, rfl, hR, hb⟩; obtain ⟨A, c, rfl⟩ := Kd.R_slice hR; have HB := Lib.hid hb; clear hR hb HL; go_wp2; go_ret; refine ⟨?_, HB.out⟩
 cases leftR b with
 | nil => rfl
 | cons x l => simp; omega
end Bt
end Go.Proofs.YtiinmagnpkfbbaaGreat
