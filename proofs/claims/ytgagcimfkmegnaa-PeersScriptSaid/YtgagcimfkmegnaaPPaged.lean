/- The document's fetch: paged. -/
import Derived.Test.YtgagcimfkmegnaaPRef
import Derived.Test.YtgagcimfkmegnaaPPage
set_option maxHeartbeats 8000000
set_option maxRecDepth 100000
namespace Go.Proofs.Ytgagcimfkmegnaa
set_option linter.unusedVariables false
set_option linter.unusedSimpArgs false
open Go.RowKit Go.Proofs.YtgagcimfkmegnaaW.PrintWords Go.Proofs.YtgagcimfkmegnaaW.PrintLast Go.Proofs.YtgagcimfkmegnaaW.PrintMore Go.Proofs.Ytgagcimfkmegnaa.QT
namespace Ps
/-- The memory of the document's fetch while a page is read. -/
structure RM (w0 w wr : World) (g gx : Nat) (x : Fx) (seq n : Int) (vS : Value) (bs : Array Value) (vL0 : Value) (b : Int) (i : ByteArray) (L : List Me) (vL : Value) (pg : Bool) (er : Int) : Prop where
 blk : wr.heap[g]? = some (.cells (rcells x seq b i vL n pg er vS) 60 (0, 0))
 bx : wr.heap[gx]? = some (.cells bs 49 (0, 0))
 row : Kd.R k25 25 wr w0.heap.size (fun _ => True) vL L
 bel : Below w0.heap.size w0 wr
 kept : Kept w wr (fun k => k = g ∨ vL0.ownBlock = some k)
 own : ∀ k, vL.ownBlock = some k → vL0.ownBlock = some k ∨ w.heap.size ≤ k
 bg : w0.heap.size ≤ g
section
variable {w0 w wr : World} {g gx : Nat} {x : Fx} {seq n : Int} {vS : Value} {bs : Array Value} {vL0 vL : Value} {b : Int} {i : ByteArray} {L : List Me} {pg : Bool} {er : Int}
theorem RM.below (hp : RM w0 w wr g gx x seq n vS bs vL0 b i L vL pg er) {w1 : World} (hb : Below wr.heap.size wr w1) : RM w0 w w1 g gx x seq n vS bs vL0 b i L vL pg er :=
 ⟨blk_below hp.blk hb, blk_below hp.bx hb, Kd.R_below hp.row hb, below_then hp.bel hp.bel.size hb, hp.kept.below hb, hp.own, hp.bg⟩
theorem RM.ne (hp : RM w0 w wr g gx x seq n vS bs vL0 b i L vL pg er) : gx ≠ g := fun e => by
 have h1 := hp.bx; rw [e, hp.blk] at h1
 injection (Option.some.inj h1) with _ h2
 exact absurd h2 (by decide)
theorem RM.set (hp : RM w0 w wr g gx x seq n vS bs vL0 b i L vL pg er) {w1 : World} (hg : wr.grownBy w1 (some g)) {b' : Int} {i' : ByteArray} {pg' : Bool} {er' : Int} (hb : w1.heap[g]? = some (.cells (rcells x seq b' i' vL n pg' er' vS) 60 (0, 0))) : RM w0 w w1 g gx x seq n vS bs vL0 b' i' L vL pg' er' :=
 ⟨hb, blk_other hp.bx hg hp.ne, Kd.R_grown1 hp.row rfl hg (Kd.R_ne hp.row hp.blk (by decide)), below_grow hp.bel hg hp.bg, Kept.of_grown hg hp.kept (fun k hk => .inl (.inl (by cases hk; rfl))), hp.own, hp.bg⟩
theorem RM.app (hp : RM w0 w wr g gx x seq n vS bs vL0 b i L vL pg er) {X2 : World} {v5 : Value} {L' : List Me} (hg : wr.grownBy X2 vL.ownBlock) (hat : v5.ownBlock = vL.ownBlock ∨ ∃ b, v5.ownBlock = some b ∧ wr.heap.size ≤ b) (hR : Kd.R k25 25 X2 w0.heap.size (fun _ => True) v5 L') (hB : Below w0.heap.size w0 X2) : RM w0 w (X2.setCell ⟨g, 9, none⟩ v5) g gx x seq n vS bs vL0 b i L' v5 pg er := by
 have hb := (hg.block g (blk_lt hp.blk) (Kd.R_ne hp.row hp.blk (by decide))).trans hp.blk; have hx := (hg.block gx (blk_lt hp.bx) (Kd.R_ne hp.row hp.bx (by decide))).trans hp.bx; refine ⟨blk_set hb 9 v5, (Below.heap_setCell X2 ⟨g, 9, none⟩ v5 gx hp.ne).trans hx, Kd.R_mono (Kd.R_far (Kd.R_tight rfl hR) (fun k hk e => Kd.R_ne hR hb (by decide) (by rw [show g = k from e.symm]; exact hk)) v5) (fun _ _ => trivial), hB.setCell hp.bg _, ?_, ?_, hp.bg⟩
 ·
  refine Kept.setCell (Kept.of_grown hg hp.kept (fun k hk => ?_)) (.inl (.inl rfl)) _; rcases hp.own k hk with h1 | h1
  ·
   exact .inl (.inr h1)
  ·
   exact .inr h1
 ·
  intro k hk; rcases hat with e | ⟨b, e, hb2⟩
  ·
   exact hp.own k (e.symm.trans hk)
  ·
   rw [e] at hk; cases hk; exact .inr (Nat.le_trans hp.kept.1 hb2)
end
/-- What paged leaves. -/
def PagedOut (w0 w : World) (g : Nat) (x : Fx) (seq n : Int) (vS vL0 : Value) (b0 : Int) (i0 : ByteArray) (L0 : List Me) (er0 : Int) (more : Bool) (ms : List Me) (e : Ending) (w' : World) : Prop :=
 ∃ (gx : Nat) (bs : Array Value) (b : Int) (i : ByteArray) (L : List Me) (vL : Value) (ok : Bool), e = .returned (.tuple #[]) ∧ ((b, i, L), ok) = pageA b0 i0 L0 more ms ∧
  RM w0 w w' g gx x seq n vS bs vL0 b i L vL (ok && !more) (if ok = true then er0 else 50)
def PPaged7.T7 : Bool × List (List Nat × List Nat) := (true, [([], []), ([], []), ([1], [1]), ([2], [2]), ([3], [3]), ([], []), ([5], [5]), ([6], [6]), ([7], [7]), ([0, 4, 8], [0, 4, 8]), ([9], [9])])
def PPaged7.B7 : List Nat := [0, 0, 2, 6, 14, 0, 32, 96, 224, 511, 1023]
theorem PPaged7.tab7 : rtab .any (opsOf Try.f30 7) = PPaged7.T7 := by kernel_rfl
theorem PPaged7.bits7 : waitsOk PPaged7.T7.2 PPaged7.B7 = true := by kernel_rfl
def PPaged11.T11 : Bool × List (List Nat × List Nat) := (true, [([], []), ([], []), ([1], [1]), ([2], [2]), ([3], [3]), ([], []), ([5], [5]), ([4, 6], [4, 6]), ([0, 0, 1, 2, 3, 4, 5, 6, 7], [0]), ([8, 0, 1, 2, 3, 4, 5, 6, 7], [8]), ([9, 7, 7, 0, 1, 2, 3, 4, 5, 6, 7], [7, 9])])
def PPaged11.B11 : List Nat := [0, 0, 2, 6, 14, 0, 32, 126, 255, 511, 1023]
theorem PPaged11.tab11 : rtab .any (opsOf Try.f30 11) = PPaged11.T11 := by kernel_rfl
theorem PPaged11.bits11 : waitsOk PPaged11.T11.2 PPaged11.B11 = true := by kernel_rfl
theorem paged_calls (w0 w : World) (g : Nat) (x : Fx) (seq n : Int) (vS vL0 : Value) (b0 : Int) (j0 : ByteArray) (L0 : List Me) (er0 : Int) (m0 : S46) (A1 : Option Addr) (c1 : Nat) (A2 : Option Addr) (c2 : Nat)
  (hb : w.heap[g]? = some (.cells (rcells x seq b0 j0 vL0 n false er0 vS) 60 (0, 0))) (hR : Kd.R k25 25 w w0.heap.size (fun _ => True) vL0 L0) (hB : Below w0.heap.size w0 w) (hg : w0.heap.size ≤ g) (hC : Kd.C k25 w0 A2 m0.f12.length m0.f12) (hn : L0.length + m0.f12.length ≤ 1000000) :
  Calls Try.prog 30 #[.pointer (some ⟨g, 0, none⟩), .agg (mcs m0 A1 c1 A2 c2)] w (PagedOut w0 w g x seq n vS vL0 b0 j0 L0 er0 m0.f10 m0.f12) := by
 have HC := Lib.hid hC; have HN := Lib.hid hn; have HPX := Lib.hid (fun (gx : Nat) (Y : World) (hy : Y.heap[gx]? = some (.cells (mcs m0 A1 c1 A2 c2) 49 (0, 0))) (hY : Below w.heap.size w Y) => (⟨blk_below hb hY, hy, Kd.R_below hR hY, below_then hB hB.size hY, Kept.of_below hY _, fun k hk => .inl hk, hg⟩ : RM w0 w Y g gx x seq n vS (mcs m0 A1 c1 A2 c2) vL0 b0 j0 L0 vL0 false er0))
 obtain ⟨ms, hms⟩ : ∃ ms, m0.f12 = ms := ⟨_, rfl⟩
 obtain ⟨more, hmore⟩ : ∃ more, m0.f10 = more := ⟨_, rfl⟩
 unfold mcs at HPX ⊢; rw [hms] at HC HN HPX ⊢; rw [hmore] at HPX ⊢; clear hb hR hB hg hC hn hms hmore
 obtain ⟨q0, hq0⟩ : ∃ q0, ((ms.length : Int) == 0) = q0 := ⟨_, rfl⟩
 obtain ⟨bs, hbs⟩ : ∃ bs, #[Value.int .i64 m0.f0, .int .i64 m0.f1, .int .i64 m0.f2, .int .i64 m0.f3, .int .i64 m0.f4, .string m0.f5, .int .i64 m0.f6, .int .i64 m0.f7.f0, .int .i64 m0.f7.f1, .int .i64 m0.f8.f0, .int .u64 m0.f8.f1, .int .u64 m0.f8.f2, .int .i64 m0.f9, .bool more, .slice A1 m0.f11.length c1, .slice A2 ms.length c2] = bs := ⟨_, rfl⟩
 have HBS := Lib.hid hbs.symm; rw [hbs] at HPX; have BX := Lib.hid (show ∀ (gx : Nat) (Y : World), Y.heap[gx]? = some (.cells bs 49 (0, 0)) → Y.cell? ⟨gx, 13, none⟩ = some (.bool more) ∧ Y.cell? ⟨gx, 15, none⟩ = some (.slice A2 ms.length c2) from fun gx Y hy => ⟨(blk_cell hy 13).trans (by rw [← hbs]; rfl), (blk_cell hy 15).trans (by rw [← hbs]; rfl)⟩); clear hbs
 cases hmo : (more && q0) with
 | true =>
  have hm1 : more = true := by cases more <;> simp_all
  have hm2 : q0 = true := by cases q0 <;> simp_all
  subst hm1 hm2; have HE := Lib.hid (show pageA b0 j0 L0 true ms = ((b0, j0, L0), false) by unfold pageA; rw [hq0]; rfl); clear hmo; go_enter Try.func30, Try.ntmps30
  go_wp2_with (first
   | ((with_reducible refine gate_dst (N := 3) rfl ?_); refine box_event rfl (N := 3) rfl (cs := #[.int .i64 m0.f0, .int .i64 m0.f1, .int .i64 m0.f2, .int .i64 m0.f3, .int .i64 m0.f4, .string m0.f5, .int .i64 m0.f6, .int .i64 m0.f7.f0, .int .i64 m0.f7.f1, .int .i64 m0.f8.f0, .int .u64 m0.f8.f1, .int .u64 m0.f8.f2, .int .i64 m0.f9, .bool true, .slice A1 m0.f11.length c1, .slice A2 ms.length c2]) (t := 49) ?hr ?_; (case hr => go_simp; done); intro gx hgx Y hboy0 hbY; have hboy : Y.heap[gx]? = some (.cells bs 49 (0, 0)) := (by rw [HBS.out]; exact hboy0); clear hboy0; have HY := Lib.hid (And.intro hboy hbY); have y13 := (BX.out gx Y hboy).1; have y15 := (BX.out gx Y hboy).2; clear hgx hboy hbY; have HPY := Lib.hid (HPX.out gx Y HY.out.1 HY.out.2))
   | (refine store_blk (t := 43) (p := .tmp 16) (v := .const (.int .i64 50)) (g := g) (off := 12) (cur := rcells x seq b0 j0 vL0 n false er0 vS) (cur' := rcells x seq b0 j0 vL0 n false 50 vS) (e := 60) (u := .int .i64 50) rfl rfl rfl rfl rfl HPY.out.blk (by kernel_rfl) (Nat.le_of_ble_eq_true rfl) (by rfl) (by rfl) ?_; intro Z3 hz3 hg3 hs3; have HP3 := Lib.hid (HPY.out.set hg3 hz3); clear hz3 hg3 hs3))
  go_end0; unfold PagedOut
  exact ⟨gx, bs, b0, j0, L0, vL0, false, rfl, HE.out.symm, HP3.out⟩
 | false =>
  have HE := Lib.hid (show pageA b0 j0 L0 more ms = pageF b0 j0 L0 ms by unfold pageA; rw [hq0, hmo]; rfl); cases more <;> cases q0 <;> simp only [Bool.and_true, Bool.and_false, Bool.true_and, Bool.false_and, Bool.true_eq_false, Bool.false_eq_true] at hmo
  case true.false =>
   clear hmo; go_enter Try.func30, Try.ntmps30
   go_wp2_with (first
    | ((with_reducible refine gate_dst (N := 3) rfl ?_); refine box_event rfl (N := 3) rfl (cs := #[.int .i64 m0.f0, .int .i64 m0.f1, .int .i64 m0.f2, .int .i64 m0.f3, .int .i64 m0.f4, .string m0.f5, .int .i64 m0.f6, .int .i64 m0.f7.f0, .int .i64 m0.f7.f1, .int .i64 m0.f8.f0, .int .u64 m0.f8.f1, .int .u64 m0.f8.f2, .int .i64 m0.f9, .bool true, .slice A1 m0.f11.length c1, .slice A2 ms.length c2]) (t := 49) ?hr ?_; (case hr => go_simp; done); intro gx hgx Y hboy0 hbY; have hboy : Y.heap[gx]? = some (.cells bs 49 (0, 0)) := (by rw [HBS.out]; exact hboy0); clear hboy0; have HY := Lib.hid (And.intro hboy hbY); have y13 := (BX.out gx Y hboy).1; have y15 := (BX.out gx Y hboy).2; clear hgx hboy hbY))
   have HP := Lib.hid (HPX.out gx Y HY.out.1 HY.out.2); clear y13 y15; go_loopg [4, 5] ms.length (fun gn v4 v5 wr => ∃ (i : Nat) (b : Int) (i0 : ByteArray) (L : List Me) (vL : Value), v4 = .int .i64 (i : Int) ∧ Aside0 (gn = ms.length - i) ∧ Aside0 (i ≤ ms.length) ∧ Aside0 (pageF b0 j0 L0 ms = pageF b i0 L (ms.drop i)) ∧ Aside0 (L.length = L0.length + i) ∧ Aside0 (RM w0 w wr g gx x seq n vS bs vL0 b i0 L vL false er0))
   case atStart => exact ⟨0, b0, j0, L0, vL0, rfl, ⟨rfl⟩, ⟨Nat.zero_le _⟩, ⟨rfl⟩, ⟨rfl⟩, ⟨HP.out⟩⟩
   case round =>
    clear HP; obtain ⟨i, b, i0, L, vL, rfl, HN1, HI, HRUN, HLL, HPW⟩ := hrel; have y15 := (BX.out gx wr HPW.out.bx).2
    by_cases hi : i < ms.length
    ·
     have hi0 : (i : Int) < (ms.length : Int) := by omega
     have hz : (0 : Int) ≤ (i : Int) := by omega
     have hwi : wrap64 ((i : Int) + 1) = ((i + 1 : Nat) : Int) := idx i ms.length hi (by have := HN.out; omega); obtain ⟨ad, hA, p0, p1, p2, p3⟩ := at_T25 (Kd.C_below HC.out HPW.out.bel) (i : Int) hz hi0; cases hA
     obtain ⟨m, hm⟩ : ∃ m, rd_T25 ms (i : Int) = m := ⟨_, rfl⟩
     rw [hm, Int.toNat_natCast] at p0 p1 p2 p3
     have hdr : ms.drop i = m :: ms.drop (i + 1) := by
      rw [List.drop_eq_getElem_cons hi, ← hm]; unfold rd_T25; rw [Int.toNat_natCast, List.getD_eq_getElem?_getD, List.getElem?_eq_getElem hi]; rfl
     have HDR := Lib.hid hdr; have HLO := Lib.hid (show (L.length + 1) * 40 ≤ 140737488355328 by have h1 := HLL.out; have h2 := HN.out; omega); clear hm hdr
     go_wp2_with (first
      | ((with_reducible refine gate_dst (N := 5) rfl ?_); refine box_event rfl (N := 5) rfl (cs := #[.string ⟨#[]⟩, .int .i64 0, .int .i64 0, .int .u32 0]) (t := 25) ?hr ?_; (case hr => go_simp; done); intro gz hgz Z hboz hbZ; have HZ := Lib.hid (And.intro hgz (And.intro hboz hbZ)); clear hgz hboz hbZ p0 p1 p2 p3 y15)
      | (refine store_blk (t := 25) (p := .tmp 5) (v := .tmp 28) (g := gz) (off := 0) (cur := #[.string ⟨#[]⟩, .int .i64 0, .int .i64 0, .int .u32 0]) (cur' := #[.string m.f0, .int .i64 m.f1, .int .i64 m.f2, .int .u32 m.f3]) (e := 25) (u := .agg #[.string m.f0, .int .i64 m.f1, .int .i64 m.f2, .int .u32 m.f3]) rfl rfl rfl rfl rfl HZ.out.2.1 (by kernel_rfl) (Nat.le_of_ble_eq_true rfl) (by rfl) (by rfl) ?_; intro Z2 hz2 hg2 hs2; have HP2 := Lib.hid (HPW.out.below (below_grow HZ.out.2.2 hg2 (Nat.le_of_eq HZ.out.1.symm))); have HZ2 := Lib.hid hz2; have z0 : Z2.cell? ⟨gz, 0, none⟩ = some (.string m.f0) := (blk_cell hz2 0).trans rfl; have z1 : Z2.cell? ⟨gz, 1, none⟩ = some (.int .i64 m.f1) := (blk_cell hz2 1).trans rfl; have z2 : Z2.cell? ⟨gz, 2, none⟩ = some (.int .i64 m.f2) := (blk_cell hz2 2).trans rfl; have z3 : Z2.cell? ⟨gz, 3, none⟩ = some (.int .u32 m.f3) := (blk_cell hz2 3).trans rfl; have y7 : Z2.cell? ⟨g, 7, none⟩ = some (.int .i64 b) := (blk_cell HP2.out.blk 7).trans rfl; have y8 : Z2.cell? ⟨g, 8, none⟩ = some (.string i0) := (blk_cell HP2.out.blk 8).trans rfl; clear hz2 hg2 hs2))
     refine start_ (n := 11) (S := fun w' => w'.cell? ⟨gz, 0, none⟩ = some (.string m.f0) ∧ w'.cell? ⟨gz, 1, none⟩ = some (.int .i64 m.f1) ∧ w'.cell? ⟨gz, 2, none⟩ = some (.int .i64 m.f2) ∧ w'.cell? ⟨gz, 3, none⟩ = some (.int .u32 m.f3) ∧ w'.cell? ⟨g, 7, none⟩ = some (.int .i64 b) ∧ w'.cell? ⟨g, 8, none⟩ = some (.string i0)) (ds := []) #[false, false, false, false, false, false, false, false, false, false, false] (by kernel_rfl) rfl rfl ⟨z0, z1, z2, z3, y7, y8⟩ (fun hHeld => ?_); refine with_tabW PPaged7.tab7 PPaged7.bits7 (fun HT_ HW_ => ?_); refine pure_ (i := 1) (N := some 30) (v := ?_) (a' := ?_) #[false, true, false, false, false, false, false, false, false, false, false] rfl rfl (any_of HT_.out (by kernel_rfl)) (fun _ _ _ h => h) (Or.inl ⟨by rfl, ?_⟩) ?_ ?_; rotate_left
     ·
      intro w'; go_simp; with_reducible rfl
     rotate_left
     ·
      simp only [Act.put, List.setIfInBounds_toArray, List.set_cons_zero, List.set_cons_succ, i64_w, i32_w]; rfl
     refine pure_ (i := 2) (N := some 31) (v := ?_) (a' := ?_) #[false, true, true, false, false, false, false, false, false, false, false] rfl rfl (any_of HT_.out (by kernel_rfl)) (fun _ _ _ h => h) (Or.inl ⟨by rfl, ?_⟩) ?_ ?_; rotate_left
     ·
      intro w'; go_simp; with_reducible rfl
     rotate_left
     ·
      simp only [Act.put, List.setIfInBounds_toArray, List.set_cons_zero, List.set_cons_succ, i64_w, i32_w]; rfl
     refine pure_ (i := 3) (N := some 32) (v := ?_) (a' := ?_) #[false, true, true, true, false, false, false, false, false, false, false] rfl rfl (any_of HT_.out (by kernel_rfl)) (fun _ _ _ h => h) (Or.inl ⟨by rfl, ?_⟩) ?_ ?_; rotate_left
     ·
      intro w'; go_simp; with_reducible rfl
     rotate_left
     ·
      simp only [Act.put, List.setIfInBounds_toArray, List.set_cons_zero, List.set_cons_succ, i64_w, i32_w]; rfl
     refine pure_ (i := 5) (N := some 34) (v := ?_) (a' := ?_) #[false, true, true, true, false, true, false, false, false, false, false] rfl rfl (any_of HT_.out (by kernel_rfl)) (fun _ _ _ h => h) (Or.inl ⟨by rfl, ?_⟩) ?_ ?_; rotate_left
     ·
      intro w'; go_simp; with_reducible rfl
     rotate_left
     ·
      simp only [Act.put, List.setIfInBounds_toArray, List.set_cons_zero, List.set_cons_succ, i64_w, i32_w]; rfl
     refine pure_ (i := 6) (N := some 35) (v := ?_) (a' := ?_) #[false, true, true, true, false, true, true, false, false, false, false] rfl rfl (any_of HT_.out (by kernel_rfl)) (fun _ _ _ h => h) (Or.inl ⟨by rfl, ?_⟩) ?_ ?_; rotate_left
     ·
      intro w'; go_simp; with_reducible rfl
     rotate_left
     ·
      simp only [Act.put, List.setIfInBounds_toArray, List.set_cons_zero, List.set_cons_succ, i64_w, i32_w]; rfl
     refine pure_ (i := 7) (N := some 36) (v := ?_) (a' := ?_) #[false, true, true, true, false, true, true, true, false, false, false] rfl rfl (any_of HT_.out (by kernel_rfl)) (fun _ _ _ h => h) (Or.inl ⟨by rfl, ?_⟩) ?_ ?_; rotate_left
     ·
      intro w'; go_simp; with_reducible rfl
     rotate_left
     ·
      simp only [Act.put, List.setIfInBounds_toArray, List.set_cons_zero, List.set_cons_succ, i64_w, i32_w]; rfl
     refine take_ (i := 0) (N := some 29) (v := ?_) (a' := ?_) #[true, true, true, true, false, true, true, true, false, false, false] rfl rfl (take_ofW HT_.out HW_.out (by kernel_rfl)) (fun _ _ _ h => h) (Or.inl ⟨by rfl, ?_⟩) hHeld ?_ ?_; rotate_left
     ·
      rintro w' ⟨s0, s1, s2, s3, s4, s5⟩; go_simp; with_reducible rfl
     rotate_left
     ·
      simp only [Act.put, List.setIfInBounds_toArray, List.set_cons_zero, List.set_cons_succ, i64_w, i32_w]; rfl
     refine take_ (i := 4) (N := some 33) (v := ?_) (a' := ?_) #[true, true, true, true, true, true, true, true, false, false, false] rfl rfl (take_ofW HT_.out HW_.out (by kernel_rfl)) (fun _ _ _ h => h) (Or.inl ⟨by rfl, ?_⟩) hHeld ?_ ?_; rotate_left
     ·
      rintro w' ⟨s0, s1, s2, s3, s4, s5⟩; go_simp; with_reducible rfl
     rotate_left
     ·
      simp only [Act.put, List.setIfInBounds_toArray, List.set_cons_zero, List.set_cons_succ, i64_w, i32_w]; rfl
     refine take_ (i := 8) (N := some 37) (v := ?_) (a' := ?_) #[true, true, true, true, true, true, true, true, true, false, false] rfl rfl (take_ofW HT_.out HW_.out (by kernel_rfl)) (fun _ _ _ h => h) (Or.inl ⟨by rfl, ?_⟩) hHeld ?_ ?_; rotate_left
     ·
      rintro w' ⟨s0, s1, s2, s3, s4, s5⟩; go_simp; with_reducible rfl
     rotate_left
     ·
      simp only [Act.put, List.setIfInBounds_toArray, List.set_cons_zero, List.set_cons_succ, i64_w, i32_w]; rfl
     refine one_ (i := 9) (N := some 38) #[true, true, true, true, true, true, true, true, true, true, false] rfl rfl (one_of HT_.out (by kernel_rfl)) (by decide) (fun K hK => ?_); refine goes_ Try.func45 (by kernel_rfl) rfl #[aggM m, .int .i64 b, .string i0] (by rfl) rfl rfl (by simp only [List.map_toArray, List.map_cons, List.map_nil]; rfl) ?_; with_reducible refine ((behind_calls _ m b i0)).mono ?_
     rintro e w5 ⟨rfl, hb5⟩; refine ⟨_, rfl, ?_⟩; have HP5 := Lib.hid (HP2.out.below (below_then (below_drew (Below.refl _ _)) (Nat.le_refl _) hb5)); have HZ5 := Lib.hid (blk_below HZ2.out (below_then (below_drew (Below.refl _ _)) (Nat.le_refl _) hb5)); clear hb5; refine hK.out _ _ ⟨((blk_cell HZ5.out 0).trans rfl), ((blk_cell HZ5.out 1).trans rfl), ((blk_cell HZ5.out 2).trans rfl), ((blk_cell HZ5.out 3).trans rfl), ((blk_cell HP5.out.blk 7).trans rfl), ((blk_cell HP5.out.blk 8).trans rfl)⟩ (fun hHeld => ?_); clear hK K; refine norm_ (a' := ?_) ?_ ?_; rotate_left
     ·
      show Act.put _ (some 38) _ = _; simp only [Act.put, List.setIfInBounds_toArray, List.set_cons_zero, List.set_cons_succ, i64_w, i32_w]; rfl
     refine pure_ (i := 10) (N := some 39) (v := ?_) (a' := ?_) #[true, true, true, true, true, true, true, true, true, true, true] rfl rfl (any_of HT_.out (by kernel_rfl)) (fun _ _ _ h => h) (Or.inl ⟨by rfl, ?_⟩) ?_ ?_; rotate_left
     ·
      intro w'; go_simp; with_reducible rfl
     rotate_left
     ·
      simp only [Act.put, List.setIfInBounds_toArray, List.set_cons_zero, List.set_cons_succ, i64_w, i32_w]; rfl
     refine done_ (done_of HT_.out (by kernel_rfl)) ?_; clear z0 z1 z2 z3 y7 y8
     cases hq : behP m b i0 with
     | false =>
      have HFIN := Lib.hid (show pageA b0 j0 L0 true ms = ((b, i0, L), false) by rw [HE.out, HRUN.out, HDR.out, pageF, if_neg (by rw [hq]; simp)])
      go_wp2_with (first
       | (refine store_blk (t := 43) (p := .tmp 42) (v := .const (.int .i64 50)) (g := g) (off := 12) (cur := rcells x seq b i0 vL n false er0 vS) (cur' := rcells x seq b i0 vL n false 50 vS) (e := 60) (u := .int .i64 50) rfl rfl rfl rfl rfl HP5.out.blk (by kernel_rfl) (Nat.le_of_ble_eq_true rfl) (by rfl) (by rfl) ?_; intro Z3 hz3 hg3 hs3; have HP3 := Lib.hid (HP5.out.set hg3 hz3); clear hz3 hg3 hs3))
      go_end0; unfold PagedOut
      exact ⟨gx, bs, b, i0, L, vL, false, rfl, HFIN.out.symm, HP3.out⟩
     | true =>
      have HRUN2 := Lib.hid (show pageF b0 j0 L0 ms = pageF m.f1 m.f0 (L ++ [m]) (ms.drop (i + 1)) by rw [HRUN.out, HDR.out, pageF, if_pos hq]); have z0 : w5.cell? ⟨gz, 0, none⟩ = some (.string m.f0) := (blk_cell HZ5.out 0).trans rfl; have z1 : w5.cell? ⟨gz, 1, none⟩ = some (.int .i64 m.f1) := (blk_cell HZ5.out 1).trans rfl
      go_wp2_with (first
       | (refine store_blk (t := 3) (p := .tmp 47) (v := .tmp 45) (g := g) (off := 7) (cur := rcells x seq b i0 vL n false er0 vS) (cur' := rcells x seq m.f1 i0 vL n false er0 vS) (e := 60) (u := .int .i64 m.f1) rfl rfl rfl rfl rfl HP5.out.blk (by kernel_rfl) (Nat.le_of_ble_eq_true rfl) (by rfl) (by rfl) ?_; intro Z1 hz1 hg1 hs1; have HZ1 := Lib.hid (blk_other HZ5.out hg1 (fun e => by have h1 := HP5.out.blk; rw [← e, HZ5.out] at h1; injection (Option.some.inj h1) with _ h2; exact absurd h2 (by decide))); have HP1 := Lib.hid (HP5.out.set hg1 hz1); have z0' : Z1.cell? ⟨gz, 0, none⟩ = some (.string m.f0) := (blk_cell HZ1.out 0).trans rfl; clear hz1 hg1 hs1 z0 z1)
       | (refine store_blk (t := 9) (p := .tmp 52) (v := .tmp 50) (g := g) (off := 8) (cur := rcells x seq m.f1 i0 vL n false er0 vS) (cur' := rcells x seq m.f1 m.f0 vL n false er0 vS) (e := 60) (u := .string m.f0) rfl rfl rfl rfl rfl HP1.out.blk (by kernel_rfl) (Nat.le_of_ble_eq_true rfl) (by rfl) (by rfl) ?_; intro Z3 hz3 hg3 hs3; have HZ3 := Lib.hid (blk_other HZ1.out hg3 (fun e => by have h1 := HP1.out.blk; rw [← e, HZ1.out] at h1; injection (Option.some.inj h1) with _ h2; exact absurd h2 (by decide))); have HP3 := Lib.hid (HP1.out.set hg3 hz3); clear hz3 hg3 hs3 z0'))
      have z0 : Z3.cell? ⟨gz, 0, none⟩ = some (.string m.f0) := (blk_cell HZ3.out 0).trans rfl; have z1 : Z3.cell? ⟨gz, 1, none⟩ = some (.int .i64 m.f1) := (blk_cell HZ3.out 1).trans rfl; have z2 : Z3.cell? ⟨gz, 2, none⟩ = some (.int .i64 m.f2) := (blk_cell HZ3.out 2).trans rfl; have z3 : Z3.cell? ⟨gz, 3, none⟩ = some (.int .u32 m.f3) := (blk_cell HZ3.out 3).trans rfl; have y9 : Z3.cell? ⟨g, 9, none⟩ = some vL := (blk_cell HP3.out.blk 9).trans rfl; refine start_ (n := 11) (S := fun w' => w'.cell? ⟨g, 9, none⟩ = some vL ∧ w'.cell? ⟨gz, 0, none⟩ = some (.string m.f0) ∧ w'.cell? ⟨gz, 1, none⟩ = some (.int .i64 m.f1) ∧ w'.cell? ⟨gz, 2, none⟩ = some (.int .i64 m.f2) ∧ w'.cell? ⟨gz, 3, none⟩ = some (.int .u32 m.f3)) (ds := [7, 10]) #[false, false, false, false, false, false, false, false, false, false, false] (by kernel_rfl) rfl rfl ⟨y9, z0, z1, z2, z3⟩ (fun hHeld => ?_); refine with_tabW PPaged11.tab11 PPaged11.bits11 (fun HT_ HW_ => ?_); refine pure_ (i := 0) (N := some 53) (v := ?_) (a' := ?_) #[true, false, false, false, false, false, false, false, false, false, false] rfl rfl (any_of HT_.out (by kernel_rfl)) (fun _ _ _ h => h) (Or.inl ⟨by rfl, ?_⟩) ?_ ?_; rotate_left
      ·
       intro w'; go_simp; with_reducible rfl
      rotate_left
      ·
       simp only [Act.put, List.setIfInBounds_toArray, List.set_cons_zero, List.set_cons_succ, i64_w, i32_w]; rfl
      refine pure_ (i := 1) (N := some 54) (v := ?_) (a' := ?_) #[true, true, false, false, false, false, false, false, false, false, false] rfl rfl (any_of HT_.out (by kernel_rfl)) (fun _ _ _ h => h) (Or.inl ⟨by rfl, ?_⟩) ?_ ?_; rotate_left
      ·
       intro w'; go_simp; with_reducible rfl
      rotate_left
      ·
       simp only [Act.put, List.setIfInBounds_toArray, List.set_cons_zero, List.set_cons_succ, i64_w, i32_w]; rfl
      refine pure_ (i := 2) (N := some 55) (v := ?_) (a' := ?_) #[true, true, true, false, false, false, false, false, false, false, false] rfl rfl (any_of HT_.out (by kernel_rfl)) (fun _ _ _ h => h) (Or.inl ⟨by rfl, ?_⟩) ?_ ?_; rotate_left
      ·
       intro w'; go_simp; with_reducible rfl
      rotate_left
      ·
       simp only [Act.put, List.setIfInBounds_toArray, List.set_cons_zero, List.set_cons_succ, i64_w, i32_w]; rfl
      refine pure_ (i := 3) (N := some 56) (v := ?_) (a' := ?_) #[true, true, true, true, false, false, false, false, false, false, false] rfl rfl (any_of HT_.out (by kernel_rfl)) (fun _ _ _ h => h) (Or.inl ⟨by rfl, ?_⟩) ?_ ?_; rotate_left
      ·
       intro w'; go_simp; with_reducible rfl
      rotate_left
      ·
       simp only [Act.put, List.setIfInBounds_toArray, List.set_cons_zero, List.set_cons_succ, i64_w, i32_w]; rfl
      refine take_ (i := 4) (N := some 57) (v := ?_) (a' := ?_) #[true, true, true, true, true, false, false, false, false, false, false] rfl rfl (take_ofW HT_.out HW_.out (by kernel_rfl)) (fun _ _ _ h => h) (Or.inl ⟨by rfl, ?_⟩) hHeld ?_ ?_; rotate_left
      ·
       rintro w' ⟨s0, s1, s2, s3, s4⟩; go_simp; with_reducible rfl
      rotate_left
      ·
       simp only [Act.put, List.setIfInBounds_toArray, List.set_cons_zero, List.set_cons_succ, i64_w, i32_w]; rfl
      refine take_ (i := 5) (N := some 58) (v := ?_) (a' := ?_) #[true, true, true, true, true, true, false, false, false, false, false] rfl rfl (take_ofW HT_.out HW_.out (by kernel_rfl)) (fun _ _ _ h => h) (Or.inl ⟨by rfl, ?_⟩) hHeld ?_ ?_; rotate_left
      ·
       rintro w' ⟨s0, s1, s2, s3, s4⟩; go_simp; with_reducible rfl
      rotate_left
      ·
       simp only [Act.put, List.setIfInBounds_toArray, List.set_cons_zero, List.set_cons_succ, i64_w, i32_w]; rfl
      refine one_ (i := 6) (N := some 59) #[true, true, true, true, true, true, true, false, false, false, false] rfl rfl (one_of HT_.out (by kernel_rfl)) (by decide) (fun K hK => ?_); refine value_ (w1 := ?_) (v := ?_) (by rfl) rfl ?_ ?_; rotate_left 2
      ·
       go_simp
       constructor
       ·
        rfl
       ·
        rfl
      have hBX := below_drew (below_alloc (Below.refl Z3.heap.size Z3) (.cells #[.string m.f0, .int .i64 m.f1, .int .i64 m.f2, .int .u32 m.f3] 25))
      obtain ⟨gl, hgl⟩ : ∃ gl, gl = Z3.heap.size := ⟨_, rfl⟩
      have hRL := Kd.R_drew (R_singleM Z3 m w0.heap.size gl HP3.out.bel.size hgl)
      obtain ⟨X1, hX1⟩ : ∃ X1 : World, X1 = (Z3.alloc (.cells #[.string m.f0, .int .i64 m.f1, .int .i64 m.f2, .int .u32 m.f3] 25)).drew := ⟨_, rfl⟩
      rw [← hX1] at hRL hBX; rw [← hX1, ← hgl]; have HP4 := Lib.hid (HP3.out.below hBX); have HZ4 := Lib.hid (blk_below HZ3.out hBX); have HRL := Lib.hid hRL; clear hRL hBX hX1 hgl; refine hK.out _ _ ⟨((blk_cell HP4.out.blk 9).trans rfl), ((blk_cell HZ4.out 0).trans rfl), ((blk_cell HZ4.out 1).trans rfl), ((blk_cell HZ4.out 2).trans rfl), ((blk_cell HZ4.out 3).trans rfl)⟩ (fun hHeld => ?_); clear hK K; refine norm_ (a' := ?_) ?_ ?_; rotate_left
      ·
       show Act.put _ (some 59) _ = _; simp only [Act.put, List.setIfInBounds_toArray, List.set_cons_zero, List.set_cons_succ, i64_w, i32_w]; rfl
      refine last_ (i := 7) (N := some 60) #[true, true, true, true, true, true, true, true, false, false, false] rfl rfl (one_of HT_.out (by kernel_rfl)) (by decide) (fun K hK => ?_); refine Kd.R_append_rows_step k25 (Rr := k25.K X1) (w0 := w0) w0.heap.size (by rfl) (.tmp 57) (.tmp 59) 22 25 (.agg #[.string ⟨#[]⟩, .int .i64 0, .int .i64 0, .int .u32 0]) 40 (by rfl) Try.underlying22 info25 (by rfl) (by decide) (by decide) vL L [m] (some ⟨gl, 0, none⟩) 1 1 (fun _ => True) (fun _ => False) (by rfl) (by rfl) HP4.out.row (Kd.R_reads' HRL.out).2.2 (fun x cs hk => by obtain rfl := k25_open hk; exact k25_mkM _ _ _ x) (fun _ h => h.elim) (fun _ _ => trivial) HP4.out.bel HP4.out.bel.size (by have := HLO.out; omega) ?_; intro v5 X2 hR5 hB5 hg5 hat5; obtain ⟨A5, n5, c5, rfl⟩ : ∃ A n c, v5 = .slice A n c := by obtain ⟨A, c, e⟩ := Kd.R_slice hR5; exact ⟨A, _, c, e⟩
      have HAPP := Lib.hid (HP4.out.app hg5 hat5 hR5 hB5); have hbk := (hg5.block g (blk_lt HP4.out.blk) (Kd.R_ne HP4.out.row HP4.out.blk (by decide))).trans HP4.out.blk; have e9 : X2.cell? ⟨g, 9, none⟩ = some vL := (blk_cell hbk 9).trans rfl; have e9f : X2.frozen? ⟨g, 9, none⟩ = false := blk_frozen hbk 9; clear hR5 hB5 hg5 hat5 hbk; refine hK.out _ _ ?_; clear hK K; refine norm_ (a' := ?_) ?_ ?_; rotate_left
      ·
       show Act.put _ (some 60) _ = _; simp only [Act.put, List.setIfInBounds_toArray, List.set_cons_zero, List.set_cons_succ, i64_w, i32_w]; rfl
      refine pure_ (i := 8) (N := some 61) (v := ?_) (a' := ?_) #[true, true, true, true, true, true, true, true, true, false, false] rfl rfl (any_of HT_.out (by kernel_rfl)) (fun _ _ _ h => h) (Or.inl ⟨by rfl, ?_⟩) ?_ ?_; rotate_left
      ·
       intro w'; go_simp; with_reducible rfl
      rotate_left
      ·
       simp only [Act.put, List.setIfInBounds_toArray, List.set_cons_zero, List.set_cons_succ, i64_w, i32_w]; rfl
      refine pure_ (i := 9) (N := some 62) (v := ?_) (a' := ?_) #[true, true, true, true, true, true, true, true, true, true, false] rfl rfl (any_of HT_.out (by kernel_rfl)) (fun _ _ _ h => h) (Or.inl ⟨by rfl, ?_⟩) ?_ ?_; rotate_left
      ·
       intro w'; go_simp; with_reducible rfl
      rotate_left
      ·
       simp only [Act.put, List.setIfInBounds_toArray, List.set_cons_zero, List.set_cons_succ, i64_w, i32_w]; rfl
      refine last_ (i := 10) (N := none) #[true, true, true, true, true, true, true, true, true, true, true] rfl rfl (one_of HT_.out (by kernel_rfl)) (by decide) (fun K hK => ?_); refine skip_ (w1 := ?_) (by rfl) rfl ?_ ?_; rotate_left
      ·
       go_simp; rfl
      refine hK.out _ _ ?_; clear hK K; refine done_ (done_of HT_.out (by kernel_rfl)) ?_
      obtain ⟨X3, hX3⟩ : ∃ X3, X2.setCell ⟨g, 9, none⟩ (.slice A5 n5 c5) = X3 := ⟨_, rfl⟩
      have happ := HAPP.out; rw [hX3] at happ ⊢; have HP9 := Lib.hid happ; have HIN := Lib.hid (show ∀ k, k = ms.length - i → ms.length - (i + 1) < k by intro k hk; omega); have HL9 := Lib.hid (show (L ++ [m]).length = L0.length + (i + 1) by rw [List.length_append, HLL.out]; simp; omega); clear happ hX3 HAPP z0 z1 z2 z3 y9 e9 e9f; go_wp2; go_roundg (ms.length - (i + 1))
      case measure => go_light; exact HIN.out _ HN1.out
      case rel => exact ⟨i + 1, m.f1, m.f0, L ++ [m], .slice A5 n5 c5, by (simp [hwi]; done), ⟨rfl⟩, ⟨hi⟩, ⟨HRUN2.out⟩, ⟨HL9.out⟩, ⟨HP9.out⟩⟩
    ·
     have hge : ¬ (i : Int) < (ms.length : Int) := by omega
     have hie : i = ms.length := by have := HI.out; omega
     have HFIN := Lib.hid (show pageA b0 j0 L0 true ms = ((b, i0, L), true) by rw [HE.out, HRUN.out, hie, List.drop_length, pageF]); clear hie; have y13 := (BX.out gx wr HPW.out.bx).1
     go_wp2_with (first
      | (refine store_blk (t := 4) (p := .tmp 68) (v := .tmp 66) (g := g) (off := 11) (cur := rcells x seq b i0 vL n false er0 vS) (cur' := rcells x seq b i0 vL n false er0 vS) (e := 60) (u := .bool false) rfl rfl rfl rfl rfl HPW.out.blk (by kernel_rfl) (Nat.le_of_ble_eq_true rfl) (by rfl) (by rfl) ?_; intro Z3 hz3 hg3 hs3; have HP3 := Lib.hid (HPW.out.set hg3 hz3); clear hz3 hg3 hs3))
     go_end0; unfold PagedOut; exact ⟨gx, bs, b, i0, L, vL, true, rfl, HFIN.out.symm, HP3.out⟩
  case false.true =>
   clear hmo; go_enter Try.func30, Try.ntmps30
   go_wp2_with (first
    | ((with_reducible refine gate_dst (N := 3) rfl ?_); refine box_event rfl (N := 3) rfl (cs := #[.int .i64 m0.f0, .int .i64 m0.f1, .int .i64 m0.f2, .int .i64 m0.f3, .int .i64 m0.f4, .string m0.f5, .int .i64 m0.f6, .int .i64 m0.f7.f0, .int .i64 m0.f7.f1, .int .i64 m0.f8.f0, .int .u64 m0.f8.f1, .int .u64 m0.f8.f2, .int .i64 m0.f9, .bool false, .slice A1 m0.f11.length c1, .slice A2 ms.length c2]) (t := 49) ?hr ?_; (case hr => go_simp; done); intro gx hgx Y hboy0 hbY; have hboy : Y.heap[gx]? = some (.cells bs 49 (0, 0)) := (by rw [HBS.out]; exact hboy0); clear hboy0; have HY := Lib.hid (And.intro hboy hbY); have y13 := (BX.out gx Y hboy).1; have y15 := (BX.out gx Y hboy).2; clear hgx hboy hbY))
   have HP := Lib.hid (HPX.out gx Y HY.out.1 HY.out.2); clear y13 y15; go_loopg [4, 5] ms.length (fun gn v4 v5 wr => ∃ (i : Nat) (b : Int) (i0 : ByteArray) (L : List Me) (vL : Value), v4 = .int .i64 (i : Int) ∧ Aside0 (gn = ms.length - i) ∧ Aside0 (i ≤ ms.length) ∧ Aside0 (pageF b0 j0 L0 ms = pageF b i0 L (ms.drop i)) ∧ Aside0 (L.length = L0.length + i) ∧ Aside0 (RM w0 w wr g gx x seq n vS bs vL0 b i0 L vL false er0))
   case atStart => exact ⟨0, b0, j0, L0, vL0, rfl, ⟨rfl⟩, ⟨Nat.zero_le _⟩, ⟨rfl⟩, ⟨rfl⟩, ⟨HP.out⟩⟩
   case round =>
    clear HP; obtain ⟨i, b, i0, L, vL, rfl, HN1, HI, HRUN, HLL, HPW⟩ := hrel; have y15 := (BX.out gx wr HPW.out.bx).2
    by_cases hi : i < ms.length
    ·
     have hi0 : (i : Int) < (ms.length : Int) := by omega
     have hz : (0 : Int) ≤ (i : Int) := by omega
     have hwi : wrap64 ((i : Int) + 1) = ((i + 1 : Nat) : Int) := idx i ms.length hi (by have := HN.out; omega); obtain ⟨ad, hA, p0, p1, p2, p3⟩ := at_T25 (Kd.C_below HC.out HPW.out.bel) (i : Int) hz hi0; cases hA
     obtain ⟨m, hm⟩ : ∃ m, rd_T25 ms (i : Int) = m := ⟨_, rfl⟩
     rw [hm, Int.toNat_natCast] at p0 p1 p2 p3
     have hdr : ms.drop i = m :: ms.drop (i + 1) := by
      rw [List.drop_eq_getElem_cons hi, ← hm]; unfold rd_T25; rw [Int.toNat_natCast, List.getD_eq_getElem?_getD, List.getElem?_eq_getElem hi]; rfl
     have HDR := Lib.hid hdr; have HLO := Lib.hid (show (L.length + 1) * 40 ≤ 140737488355328 by have h1 := HLL.out; have h2 := HN.out; omega); clear hm hdr
     go_wp2_with (first
      | ((with_reducible refine gate_dst (N := 5) rfl ?_); refine box_event rfl (N := 5) rfl (cs := #[.string ⟨#[]⟩, .int .i64 0, .int .i64 0, .int .u32 0]) (t := 25) ?hr ?_; (case hr => go_simp; done); intro gz hgz Z hboz hbZ; have HZ := Lib.hid (And.intro hgz (And.intro hboz hbZ)); clear hgz hboz hbZ p0 p1 p2 p3 y15)
      | (refine store_blk (t := 25) (p := .tmp 5) (v := .tmp 28) (g := gz) (off := 0) (cur := #[.string ⟨#[]⟩, .int .i64 0, .int .i64 0, .int .u32 0]) (cur' := #[.string m.f0, .int .i64 m.f1, .int .i64 m.f2, .int .u32 m.f3]) (e := 25) (u := .agg #[.string m.f0, .int .i64 m.f1, .int .i64 m.f2, .int .u32 m.f3]) rfl rfl rfl rfl rfl HZ.out.2.1 (by kernel_rfl) (Nat.le_of_ble_eq_true rfl) (by rfl) (by rfl) ?_; intro Z2 hz2 hg2 hs2; have HP2 := Lib.hid (HPW.out.below (below_grow HZ.out.2.2 hg2 (Nat.le_of_eq HZ.out.1.symm))); have HZ2 := Lib.hid hz2; have z0 : Z2.cell? ⟨gz, 0, none⟩ = some (.string m.f0) := (blk_cell hz2 0).trans rfl; have z1 : Z2.cell? ⟨gz, 1, none⟩ = some (.int .i64 m.f1) := (blk_cell hz2 1).trans rfl; have z2 : Z2.cell? ⟨gz, 2, none⟩ = some (.int .i64 m.f2) := (blk_cell hz2 2).trans rfl; have z3 : Z2.cell? ⟨gz, 3, none⟩ = some (.int .u32 m.f3) := (blk_cell hz2 3).trans rfl; have y7 : Z2.cell? ⟨g, 7, none⟩ = some (.int .i64 b) := (blk_cell HP2.out.blk 7).trans rfl; have y8 : Z2.cell? ⟨g, 8, none⟩ = some (.string i0) := (blk_cell HP2.out.blk 8).trans rfl; clear hz2 hg2 hs2))
     refine start_ (n := 11) (S := fun w' => w'.cell? ⟨gz, 0, none⟩ = some (.string m.f0) ∧ w'.cell? ⟨gz, 1, none⟩ = some (.int .i64 m.f1) ∧ w'.cell? ⟨gz, 2, none⟩ = some (.int .i64 m.f2) ∧ w'.cell? ⟨gz, 3, none⟩ = some (.int .u32 m.f3) ∧ w'.cell? ⟨g, 7, none⟩ = some (.int .i64 b) ∧ w'.cell? ⟨g, 8, none⟩ = some (.string i0)) (ds := []) #[false, false, false, false, false, false, false, false, false, false, false] (by kernel_rfl) rfl rfl ⟨z0, z1, z2, z3, y7, y8⟩ (fun hHeld => ?_); refine with_tabW PPaged7.tab7 PPaged7.bits7 (fun HT_ HW_ => ?_); refine pure_ (i := 1) (N := some 30) (v := ?_) (a' := ?_) #[false, true, false, false, false, false, false, false, false, false, false] rfl rfl (any_of HT_.out (by kernel_rfl)) (fun _ _ _ h => h) (Or.inl ⟨by rfl, ?_⟩) ?_ ?_; rotate_left
     ·
      intro w'; go_simp; with_reducible rfl
     rotate_left
     ·
      simp only [Act.put, List.setIfInBounds_toArray, List.set_cons_zero, List.set_cons_succ, i64_w, i32_w]; rfl
     refine pure_ (i := 2) (N := some 31) (v := ?_) (a' := ?_) #[false, true, true, false, false, false, false, false, false, false, false] rfl rfl (any_of HT_.out (by kernel_rfl)) (fun _ _ _ h => h) (Or.inl ⟨by rfl, ?_⟩) ?_ ?_; rotate_left
     ·
      intro w'; go_simp; with_reducible rfl
     rotate_left
     ·
      simp only [Act.put, List.setIfInBounds_toArray, List.set_cons_zero, List.set_cons_succ, i64_w, i32_w]; rfl
     refine pure_ (i := 3) (N := some 32) (v := ?_) (a' := ?_) #[false, true, true, true, false, false, false, false, false, false, false] rfl rfl (any_of HT_.out (by kernel_rfl)) (fun _ _ _ h => h) (Or.inl ⟨by rfl, ?_⟩) ?_ ?_; rotate_left
     ·
      intro w'; go_simp; with_reducible rfl
     rotate_left
     ·
      simp only [Act.put, List.setIfInBounds_toArray, List.set_cons_zero, List.set_cons_succ, i64_w, i32_w]; rfl
     refine pure_ (i := 5) (N := some 34) (v := ?_) (a' := ?_) #[false, true, true, true, false, true, false, false, false, false, false] rfl rfl (any_of HT_.out (by kernel_rfl)) (fun _ _ _ h => h) (Or.inl ⟨by rfl, ?_⟩) ?_ ?_; rotate_left
     ·
      intro w'; go_simp; with_reducible rfl
     rotate_left
     ·
      simp only [Act.put, List.setIfInBounds_toArray, List.set_cons_zero, List.set_cons_succ, i64_w, i32_w]; rfl
     refine pure_ (i := 6) (N := some 35) (v := ?_) (a' := ?_) #[false, true, true, true, false, true, true, false, false, false, false] rfl rfl (any_of HT_.out (by kernel_rfl)) (fun _ _ _ h => h) (Or.inl ⟨by rfl, ?_⟩) ?_ ?_; rotate_left
     ·
      intro w'; go_simp; with_reducible rfl
     rotate_left
     ·
      simp only [Act.put, List.setIfInBounds_toArray, List.set_cons_zero, List.set_cons_succ, i64_w, i32_w]; rfl
     refine pure_ (i := 7) (N := some 36) (v := ?_) (a' := ?_) #[false, true, true, true, false, true, true, true, false, false, false] rfl rfl (any_of HT_.out (by kernel_rfl)) (fun _ _ _ h => h) (Or.inl ⟨by rfl, ?_⟩) ?_ ?_; rotate_left
     ·
      intro w'; go_simp; with_reducible rfl
     rotate_left
     ·
      simp only [Act.put, List.setIfInBounds_toArray, List.set_cons_zero, List.set_cons_succ, i64_w, i32_w]; rfl
     refine take_ (i := 0) (N := some 29) (v := ?_) (a' := ?_) #[true, true, true, true, false, true, true, true, false, false, false] rfl rfl (take_ofW HT_.out HW_.out (by kernel_rfl)) (fun _ _ _ h => h) (Or.inl ⟨by rfl, ?_⟩) hHeld ?_ ?_; rotate_left
     ·
      rintro w' ⟨s0, s1, s2, s3, s4, s5⟩; go_simp; with_reducible rfl
     rotate_left
     ·
      simp only [Act.put, List.setIfInBounds_toArray, List.set_cons_zero, List.set_cons_succ, i64_w, i32_w]; rfl
     refine take_ (i := 4) (N := some 33) (v := ?_) (a' := ?_) #[true, true, true, true, true, true, true, true, false, false, false] rfl rfl (take_ofW HT_.out HW_.out (by kernel_rfl)) (fun _ _ _ h => h) (Or.inl ⟨by rfl, ?_⟩) hHeld ?_ ?_; rotate_left
     ·
      rintro w' ⟨s0, s1, s2, s3, s4, s5⟩; go_simp; with_reducible rfl
     rotate_left
     ·
      simp only [Act.put, List.setIfInBounds_toArray, List.set_cons_zero, List.set_cons_succ, i64_w, i32_w]; rfl
     refine take_ (i := 8) (N := some 37) (v := ?_) (a' := ?_) #[true, true, true, true, true, true, true, true, true, false, false] rfl rfl (take_ofW HT_.out HW_.out (by kernel_rfl)) (fun _ _ _ h => h) (Or.inl ⟨by rfl, ?_⟩) hHeld ?_ ?_; rotate_left
     ·
      rintro w' ⟨s0, s1, s2, s3, s4, s5⟩; go_simp; with_reducible rfl
     rotate_left
     ·
      simp only [Act.put, List.setIfInBounds_toArray, List.set_cons_zero, List.set_cons_succ, i64_w, i32_w]; rfl
     refine one_ (i := 9) (N := some 38) #[true, true, true, true, true, true, true, true, true, true, false] rfl rfl (one_of HT_.out (by kernel_rfl)) (by decide) (fun K hK => ?_); refine goes_ Try.func45 (by kernel_rfl) rfl #[aggM m, .int .i64 b, .string i0] (by rfl) rfl rfl (by simp only [List.map_toArray, List.map_cons, List.map_nil]; rfl) ?_; with_reducible refine ((behind_calls _ m b i0)).mono ?_
     rintro e w5 ⟨rfl, hb5⟩; refine ⟨_, rfl, ?_⟩; have HP5 := Lib.hid (HP2.out.below (below_then (below_drew (Below.refl _ _)) (Nat.le_refl _) hb5)); have HZ5 := Lib.hid (blk_below HZ2.out (below_then (below_drew (Below.refl _ _)) (Nat.le_refl _) hb5)); clear hb5; refine hK.out _ _ ⟨((blk_cell HZ5.out 0).trans rfl), ((blk_cell HZ5.out 1).trans rfl), ((blk_cell HZ5.out 2).trans rfl), ((blk_cell HZ5.out 3).trans rfl), ((blk_cell HP5.out.blk 7).trans rfl), ((blk_cell HP5.out.blk 8).trans rfl)⟩ (fun hHeld => ?_); clear hK K; refine norm_ (a' := ?_) ?_ ?_; rotate_left
     ·
      show Act.put _ (some 38) _ = _; simp only [Act.put, List.setIfInBounds_toArray, List.set_cons_zero, List.set_cons_succ, i64_w, i32_w]; rfl
     refine pure_ (i := 10) (N := some 39) (v := ?_) (a' := ?_) #[true, true, true, true, true, true, true, true, true, true, true] rfl rfl (any_of HT_.out (by kernel_rfl)) (fun _ _ _ h => h) (Or.inl ⟨by rfl, ?_⟩) ?_ ?_; rotate_left
     ·
      intro w'; go_simp; with_reducible rfl
     rotate_left
     ·
      simp only [Act.put, List.setIfInBounds_toArray, List.set_cons_zero, List.set_cons_succ, i64_w, i32_w]; rfl
     refine done_ (done_of HT_.out (by kernel_rfl)) ?_; clear z0 z1 z2 z3 y7 y8
     cases hq : behP m b i0 with
     | false =>
      have HFIN := Lib.hid (show pageA b0 j0 L0 false ms = ((b, i0, L), false) by rw [HE.out, HRUN.out, HDR.out, pageF, if_neg (by rw [hq]; simp)])
      go_wp2_with (first
       | (refine store_blk (t := 43) (p := .tmp 42) (v := .const (.int .i64 50)) (g := g) (off := 12) (cur := rcells x seq b i0 vL n false er0 vS) (cur' := rcells x seq b i0 vL n false 50 vS) (e := 60) (u := .int .i64 50) rfl rfl rfl rfl rfl HP5.out.blk (by kernel_rfl) (Nat.le_of_ble_eq_true rfl) (by rfl) (by rfl) ?_; intro Z3 hz3 hg3 hs3; have HP3 := Lib.hid (HP5.out.set hg3 hz3); clear hz3 hg3 hs3))
      go_end0; unfold PagedOut
      exact ⟨gx, bs, b, i0, L, vL, false, rfl, HFIN.out.symm, HP3.out⟩
     | true =>
      have HRUN2 := Lib.hid (show pageF b0 j0 L0 ms = pageF m.f1 m.f0 (L ++ [m]) (ms.drop (i + 1)) by rw [HRUN.out, HDR.out, pageF, if_pos hq]); have z0 : w5.cell? ⟨gz, 0, none⟩ = some (.string m.f0) := (blk_cell HZ5.out 0).trans rfl; have z1 : w5.cell? ⟨gz, 1, none⟩ = some (.int .i64 m.f1) := (blk_cell HZ5.out 1).trans rfl
      go_wp2_with (first
       | (refine store_blk (t := 3) (p := .tmp 47) (v := .tmp 45) (g := g) (off := 7) (cur := rcells x seq b i0 vL n false er0 vS) (cur' := rcells x seq m.f1 i0 vL n false er0 vS) (e := 60) (u := .int .i64 m.f1) rfl rfl rfl rfl rfl HP5.out.blk (by kernel_rfl) (Nat.le_of_ble_eq_true rfl) (by rfl) (by rfl) ?_; intro Z1 hz1 hg1 hs1; have HZ1 := Lib.hid (blk_other HZ5.out hg1 (fun e => by have h1 := HP5.out.blk; rw [← e, HZ5.out] at h1; injection (Option.some.inj h1) with _ h2; exact absurd h2 (by decide))); have HP1 := Lib.hid (HP5.out.set hg1 hz1); have z0' : Z1.cell? ⟨gz, 0, none⟩ = some (.string m.f0) := (blk_cell HZ1.out 0).trans rfl; clear hz1 hg1 hs1 z0 z1)
       | (refine store_blk (t := 9) (p := .tmp 52) (v := .tmp 50) (g := g) (off := 8) (cur := rcells x seq m.f1 i0 vL n false er0 vS) (cur' := rcells x seq m.f1 m.f0 vL n false er0 vS) (e := 60) (u := .string m.f0) rfl rfl rfl rfl rfl HP1.out.blk (by kernel_rfl) (Nat.le_of_ble_eq_true rfl) (by rfl) (by rfl) ?_; intro Z3 hz3 hg3 hs3; have HZ3 := Lib.hid (blk_other HZ1.out hg3 (fun e => by have h1 := HP1.out.blk; rw [← e, HZ1.out] at h1; injection (Option.some.inj h1) with _ h2; exact absurd h2 (by decide))); have HP3 := Lib.hid (HP1.out.set hg3 hz3); clear hz3 hg3 hs3 z0'))
      have z0 : Z3.cell? ⟨gz, 0, none⟩ = some (.string m.f0) := (blk_cell HZ3.out 0).trans rfl; have z1 : Z3.cell? ⟨gz, 1, none⟩ = some (.int .i64 m.f1) := (blk_cell HZ3.out 1).trans rfl; have z2 : Z3.cell? ⟨gz, 2, none⟩ = some (.int .i64 m.f2) := (blk_cell HZ3.out 2).trans rfl; have z3 : Z3.cell? ⟨gz, 3, none⟩ = some (.int .u32 m.f3) := (blk_cell HZ3.out 3).trans rfl; have y9 : Z3.cell? ⟨g, 9, none⟩ = some vL := (blk_cell HP3.out.blk 9).trans rfl; refine start_ (n := 11) (S := fun w' => w'.cell? ⟨g, 9, none⟩ = some vL ∧ w'.cell? ⟨gz, 0, none⟩ = some (.string m.f0) ∧ w'.cell? ⟨gz, 1, none⟩ = some (.int .i64 m.f1) ∧ w'.cell? ⟨gz, 2, none⟩ = some (.int .i64 m.f2) ∧ w'.cell? ⟨gz, 3, none⟩ = some (.int .u32 m.f3)) (ds := [7, 10]) #[false, false, false, false, false, false, false, false, false, false, false] (by kernel_rfl) rfl rfl ⟨y9, z0, z1, z2, z3⟩ (fun hHeld => ?_); refine with_tabW PPaged11.tab11 PPaged11.bits11 (fun HT_ HW_ => ?_); refine pure_ (i := 0) (N := some 53) (v := ?_) (a' := ?_) #[true, false, false, false, false, false, false, false, false, false, false] rfl rfl (any_of HT_.out (by kernel_rfl)) (fun _ _ _ h => h) (Or.inl ⟨by rfl, ?_⟩) ?_ ?_; rotate_left
      ·
       intro w'; go_simp; with_reducible rfl
      rotate_left
      ·
       simp only [Act.put, List.setIfInBounds_toArray, List.set_cons_zero, List.set_cons_succ, i64_w, i32_w]; rfl
      refine pure_ (i := 1) (N := some 54) (v := ?_) (a' := ?_) #[true, true, false, false, false, false, false, false, false, false, false] rfl rfl (any_of HT_.out (by kernel_rfl)) (fun _ _ _ h => h) (Or.inl ⟨by rfl, ?_⟩) ?_ ?_; rotate_left
      ·
       intro w'; go_simp; with_reducible rfl
      rotate_left
      ·
       simp only [Act.put, List.setIfInBounds_toArray, List.set_cons_zero, List.set_cons_succ, i64_w, i32_w]; rfl
      refine pure_ (i := 2) (N := some 55) (v := ?_) (a' := ?_) #[true, true, true, false, false, false, false, false, false, false, false] rfl rfl (any_of HT_.out (by kernel_rfl)) (fun _ _ _ h => h) (Or.inl ⟨by rfl, ?_⟩) ?_ ?_; rotate_left
      ·
       intro w'; go_simp; with_reducible rfl
      rotate_left
      ·
       simp only [Act.put, List.setIfInBounds_toArray, List.set_cons_zero, List.set_cons_succ, i64_w, i32_w]; rfl
      refine pure_ (i := 3) (N := some 56) (v := ?_) (a' := ?_) #[true, true, true, true, false, false, false, false, false, false, false] rfl rfl (any_of HT_.out (by kernel_rfl)) (fun _ _ _ h => h) (Or.inl ⟨by rfl, ?_⟩) ?_ ?_; rotate_left
      ·
       intro w'; go_simp; with_reducible rfl
      rotate_left
      ·
       simp only [Act.put, List.setIfInBounds_toArray, List.set_cons_zero, List.set_cons_succ, i64_w, i32_w]; rfl
      refine take_ (i := 4) (N := some 57) (v := ?_) (a' := ?_) #[true, true, true, true, true, false, false, false, false, false, false] rfl rfl (take_ofW HT_.out HW_.out (by kernel_rfl)) (fun _ _ _ h => h) (Or.inl ⟨by rfl, ?_⟩) hHeld ?_ ?_; rotate_left
      ·
       rintro w' ⟨s0, s1, s2, s3, s4⟩; go_simp; with_reducible rfl
      rotate_left
      ·
       simp only [Act.put, List.setIfInBounds_toArray, List.set_cons_zero, List.set_cons_succ, i64_w, i32_w]; rfl
      refine take_ (i := 5) (N := some 58) (v := ?_) (a' := ?_) #[true, true, true, true, true, true, false, false, false, false, false] rfl rfl (take_ofW HT_.out HW_.out (by kernel_rfl)) (fun _ _ _ h => h) (Or.inl ⟨by rfl, ?_⟩) hHeld ?_ ?_; rotate_left
      ·
       rintro w' ⟨s0, s1, s2, s3, s4⟩; go_simp; with_reducible rfl
      rotate_left
      ·
       simp only [Act.put, List.setIfInBounds_toArray, List.set_cons_zero, List.set_cons_succ, i64_w, i32_w]; rfl
      refine one_ (i := 6) (N := some 59) #[true, true, true, true, true, true, true, false, false, false, false] rfl rfl (one_of HT_.out (by kernel_rfl)) (by decide) (fun K hK => ?_); refine value_ (w1 := ?_) (v := ?_) (by rfl) rfl ?_ ?_; rotate_left 2
      ·
       go_simp
       constructor
       ·
        rfl
       ·
        rfl
      have hBX := below_drew (below_alloc (Below.refl Z3.heap.size Z3) (.cells #[.string m.f0, .int .i64 m.f1, .int .i64 m.f2, .int .u32 m.f3] 25))
      obtain ⟨gl, hgl⟩ : ∃ gl, gl = Z3.heap.size := ⟨_, rfl⟩
      have hRL := Kd.R_drew (R_singleM Z3 m w0.heap.size gl HP3.out.bel.size hgl)
      obtain ⟨X1, hX1⟩ : ∃ X1 : World, X1 = (Z3.alloc (.cells #[.string m.f0, .int .i64 m.f1, .int .i64 m.f2, .int .u32 m.f3] 25)).drew := ⟨_, rfl⟩
      rw [← hX1] at hRL hBX; rw [← hX1, ← hgl]; have HP4 := Lib.hid (HP3.out.below hBX); have HZ4 := Lib.hid (blk_below HZ3.out hBX); have HRL := Lib.hid hRL; clear hRL hBX hX1 hgl; refine hK.out _ _ ⟨((blk_cell HP4.out.blk 9).trans rfl), ((blk_cell HZ4.out 0).trans rfl), ((blk_cell HZ4.out 1).trans rfl), ((blk_cell HZ4.out 2).trans rfl), ((blk_cell HZ4.out 3).trans rfl)⟩ (fun hHeld => ?_); clear hK K; refine norm_ (a' := ?_) ?_ ?_; rotate_left
      ·
       show Act.put _ (some 59) _ = _; simp only [Act.put, List.setIfInBounds_toArray, List.set_cons_zero, List.set_cons_succ, i64_w, i32_w]; rfl
      refine last_ (i := 7) (N := some 60) #[true, true, true, true, true, true, true, true, false, false, false] rfl rfl (one_of HT_.out (by kernel_rfl)) (by decide) (fun K hK => ?_); refine Kd.R_append_rows_step k25 (Rr := k25.K X1) (w0 := w0) w0.heap.size (by rfl) (.tmp 57) (.tmp 59) 22 25 (.agg #[.string ⟨#[]⟩, .int .i64 0, .int .i64 0, .int .u32 0]) 40 (by rfl) Try.underlying22 info25 (by rfl) (by decide) (by decide) vL L [m] (some ⟨gl, 0, none⟩) 1 1 (fun _ => True) (fun _ => False) (by rfl) (by rfl) HP4.out.row (Kd.R_reads' HRL.out).2.2 (fun x cs hk => by obtain rfl := k25_open hk; exact k25_mkM _ _ _ x) (fun _ h => h.elim) (fun _ _ => trivial) HP4.out.bel HP4.out.bel.size (by have := HLO.out; omega) ?_; intro v5 X2 hR5 hB5 hg5 hat5; obtain ⟨A5, n5, c5, rfl⟩ : ∃ A n c, v5 = .slice A n c := by obtain ⟨A, c, e⟩ := Kd.R_slice hR5; exact ⟨A, _, c, e⟩
      have HAPP := Lib.hid (HP4.out.app hg5 hat5 hR5 hB5); have hbk := (hg5.block g (blk_lt HP4.out.blk) (Kd.R_ne HP4.out.row HP4.out.blk (by decide))).trans HP4.out.blk; have e9 : X2.cell? ⟨g, 9, none⟩ = some vL := (blk_cell hbk 9).trans rfl; have e9f : X2.frozen? ⟨g, 9, none⟩ = false := blk_frozen hbk 9; clear hR5 hB5 hg5 hat5 hbk; refine hK.out _ _ ?_; clear hK K; refine norm_ (a' := ?_) ?_ ?_; rotate_left
      ·
       show Act.put _ (some 60) _ = _; simp only [Act.put, List.setIfInBounds_toArray, List.set_cons_zero, List.set_cons_succ, i64_w, i32_w]; rfl
      refine pure_ (i := 8) (N := some 61) (v := ?_) (a' := ?_) #[true, true, true, true, true, true, true, true, true, false, false] rfl rfl (any_of HT_.out (by kernel_rfl)) (fun _ _ _ h => h) (Or.inl ⟨by rfl, ?_⟩) ?_ ?_; rotate_left
      ·
       intro w'; go_simp; with_reducible rfl
      rotate_left
      ·
       simp only [Act.put, List.setIfInBounds_toArray, List.set_cons_zero, List.set_cons_succ, i64_w, i32_w]; rfl
      refine pure_ (i := 9) (N := some 62) (v := ?_) (a' := ?_) #[true, true, true, true, true, true, true, true, true, true, false] rfl rfl (any_of HT_.out (by kernel_rfl)) (fun _ _ _ h => h) (Or.inl ⟨by rfl, ?_⟩) ?_ ?_; rotate_left
      ·
       intro w'; go_simp; with_reducible rfl
      rotate_left
      ·
       simp only [Act.put, List.setIfInBounds_toArray, List.set_cons_zero, List.set_cons_succ, i64_w, i32_w]; rfl
      refine last_ (i := 10) (N := none) #[true, true, true, true, true, true, true, true, true, true, true] rfl rfl (one_of HT_.out (by kernel_rfl)) (by decide) (fun K hK => ?_); refine skip_ (w1 := ?_) (by rfl) rfl ?_ ?_; rotate_left
      ·
       go_simp; rfl
      refine hK.out _ _ ?_; clear hK K; refine done_ (done_of HT_.out (by kernel_rfl)) ?_
      obtain ⟨X3, hX3⟩ : ∃ X3, X2.setCell ⟨g, 9, none⟩ (.slice A5 n5 c5) = X3 := ⟨_, rfl⟩
      have happ := HAPP.out; rw [hX3] at happ ⊢; have HP9 := Lib.hid happ; have HIN := Lib.hid (show ∀ k, k = ms.length - i → ms.length - (i + 1) < k by intro k hk; omega); have HL9 := Lib.hid (show (L ++ [m]).length = L0.length + (i + 1) by rw [List.length_append, HLL.out]; simp; omega); clear happ hX3 HAPP z0 z1 z2 z3 y9 e9 e9f; go_wp2; go_roundg (ms.length - (i + 1))
      case measure => go_light; exact HIN.out _ HN1.out
      case rel => exact ⟨i + 1, m.f1, m.f0, L ++ [m], .slice A5 n5 c5, by (simp [hwi]; done), ⟨rfl⟩, ⟨hi⟩, ⟨HRUN2.out⟩, ⟨HL9.out⟩, ⟨HP9.out⟩⟩
    ·
     have hge : ¬ (i : Int) < (ms.length : Int) := by omega
     have hie : i = ms.length := by have := HI.out; omega
     have HFIN := Lib.hid (show pageA b0 j0 L0 false ms = ((b, i0, L), true) by rw [HE.out, HRUN.out, hie, List.drop_length, pageF]); clear hie; have y13 := (BX.out gx wr HPW.out.bx).1
     go_wp2_with (first
      | (refine store_blk (t := 4) (p := .tmp 68) (v := .tmp 66) (g := g) (off := 11) (cur := rcells x seq b i0 vL n false er0 vS) (cur' := rcells x seq b i0 vL n true er0 vS) (e := 60) (u := .bool true) rfl rfl rfl rfl rfl HPW.out.blk (by kernel_rfl) (Nat.le_of_ble_eq_true rfl) (by rfl) (by rfl) ?_; intro Z3 hz3 hg3 hs3; have HP3 := Lib.hid (HPW.out.set hg3 hz3); clear hz3 hg3 hs3))
     go_end0; unfold PagedOut; exact ⟨gx, bs, b, i0, L, vL, true, rfl, HFIN.out.symm, HP3.out⟩
  case false.false =>
   clear hmo; go_enter Try.func30, Try.ntmps30
   go_wp2_with (first
    | ((with_reducible refine gate_dst (N := 3) rfl ?_); refine box_event rfl (N := 3) rfl (cs := #[.int .i64 m0.f0, .int .i64 m0.f1, .int .i64 m0.f2, .int .i64 m0.f3, .int .i64 m0.f4, .string m0.f5, .int .i64 m0.f6, .int .i64 m0.f7.f0, .int .i64 m0.f7.f1, .int .i64 m0.f8.f0, .int .u64 m0.f8.f1, .int .u64 m0.f8.f2, .int .i64 m0.f9, .bool false, .slice A1 m0.f11.length c1, .slice A2 ms.length c2]) (t := 49) ?hr ?_; (case hr => go_simp; done); intro gx hgx Y hboy0 hbY; have hboy : Y.heap[gx]? = some (.cells bs 49 (0, 0)) := (by rw [HBS.out]; exact hboy0); clear hboy0; have HY := Lib.hid (And.intro hboy hbY); have y13 := (BX.out gx Y hboy).1; have y15 := (BX.out gx Y hboy).2; clear hgx hboy hbY))
   have HP := Lib.hid (HPX.out gx Y HY.out.1 HY.out.2); clear y13 y15; go_loopg [4, 5] ms.length (fun gn v4 v5 wr => ∃ (i : Nat) (b : Int) (i0 : ByteArray) (L : List Me) (vL : Value), v4 = .int .i64 (i : Int) ∧ Aside0 (gn = ms.length - i) ∧ Aside0 (i ≤ ms.length) ∧ Aside0 (pageF b0 j0 L0 ms = pageF b i0 L (ms.drop i)) ∧ Aside0 (L.length = L0.length + i) ∧ Aside0 (RM w0 w wr g gx x seq n vS bs vL0 b i0 L vL false er0))
   case atStart => exact ⟨0, b0, j0, L0, vL0, rfl, ⟨rfl⟩, ⟨Nat.zero_le _⟩, ⟨rfl⟩, ⟨rfl⟩, ⟨HP.out⟩⟩
   case round =>
    clear HP; obtain ⟨i, b, i0, L, vL, rfl, HN1, HI, HRUN, HLL, HPW⟩ := hrel; have y15 := (BX.out gx wr HPW.out.bx).2
    by_cases hi : i < ms.length
    ·
     have hi0 : (i : Int) < (ms.length : Int) := by omega
     have hz : (0 : Int) ≤ (i : Int) := by omega
     have hwi : wrap64 ((i : Int) + 1) = ((i + 1 : Nat) : Int) := idx i ms.length hi (by have := HN.out; omega); obtain ⟨ad, hA, p0, p1, p2, p3⟩ := at_T25 (Kd.C_below HC.out HPW.out.bel) (i : Int) hz hi0; cases hA
     obtain ⟨m, hm⟩ : ∃ m, rd_T25 ms (i : Int) = m := ⟨_, rfl⟩
     rw [hm, Int.toNat_natCast] at p0 p1 p2 p3
     have hdr : ms.drop i = m :: ms.drop (i + 1) := by
      rw [List.drop_eq_getElem_cons hi, ← hm]; unfold rd_T25; rw [Int.toNat_natCast, List.getD_eq_getElem?_getD, List.getElem?_eq_getElem hi]; rfl
     have HDR := Lib.hid hdr; have HLO := Lib.hid (show (L.length + 1) * 40 ≤ 140737488355328 by have h1 := HLL.out; have h2 := HN.out; omega); clear hm hdr
     go_wp2_with (first
      | ((with_reducible refine gate_dst (N := 5) rfl ?_); refine box_event rfl (N := 5) rfl (cs := #[.string ⟨#[]⟩, .int .i64 0, .int .i64 0, .int .u32 0]) (t := 25) ?hr ?_; (case hr => go_simp; done); intro gz hgz Z hboz hbZ; have HZ := Lib.hid (And.intro hgz (And.intro hboz hbZ)); clear hgz hboz hbZ p0 p1 p2 p3 y15)
      | (refine store_blk (t := 25) (p := .tmp 5) (v := .tmp 28) (g := gz) (off := 0) (cur := #[.string ⟨#[]⟩, .int .i64 0, .int .i64 0, .int .u32 0]) (cur' := #[.string m.f0, .int .i64 m.f1, .int .i64 m.f2, .int .u32 m.f3]) (e := 25) (u := .agg #[.string m.f0, .int .i64 m.f1, .int .i64 m.f2, .int .u32 m.f3]) rfl rfl rfl rfl rfl HZ.out.2.1 (by kernel_rfl) (Nat.le_of_ble_eq_true rfl) (by rfl) (by rfl) ?_; intro Z2 hz2 hg2 hs2; have HP2 := Lib.hid (HPW.out.below (below_grow HZ.out.2.2 hg2 (Nat.le_of_eq HZ.out.1.symm))); have HZ2 := Lib.hid hz2; have z0 : Z2.cell? ⟨gz, 0, none⟩ = some (.string m.f0) := (blk_cell hz2 0).trans rfl; have z1 : Z2.cell? ⟨gz, 1, none⟩ = some (.int .i64 m.f1) := (blk_cell hz2 1).trans rfl; have z2 : Z2.cell? ⟨gz, 2, none⟩ = some (.int .i64 m.f2) := (blk_cell hz2 2).trans rfl; have z3 : Z2.cell? ⟨gz, 3, none⟩ = some (.int .u32 m.f3) := (blk_cell hz2 3).trans rfl; have y7 : Z2.cell? ⟨g, 7, none⟩ = some (.int .i64 b) := (blk_cell HP2.out.blk 7).trans rfl; have y8 : Z2.cell? ⟨g, 8, none⟩ = some (.string i0) := (blk_cell HP2.out.blk 8).trans rfl; clear hz2 hg2 hs2))
     refine start_ (n := 11) (S := fun w' => w'.cell? ⟨gz, 0, none⟩ = some (.string m.f0) ∧ w'.cell? ⟨gz, 1, none⟩ = some (.int .i64 m.f1) ∧ w'.cell? ⟨gz, 2, none⟩ = some (.int .i64 m.f2) ∧ w'.cell? ⟨gz, 3, none⟩ = some (.int .u32 m.f3) ∧ w'.cell? ⟨g, 7, none⟩ = some (.int .i64 b) ∧ w'.cell? ⟨g, 8, none⟩ = some (.string i0)) (ds := []) #[false, false, false, false, false, false, false, false, false, false, false] (by kernel_rfl) rfl rfl ⟨z0, z1, z2, z3, y7, y8⟩ (fun hHeld => ?_); refine with_tabW PPaged7.tab7 PPaged7.bits7 (fun HT_ HW_ => ?_); refine pure_ (i := 1) (N := some 30) (v := ?_) (a' := ?_) #[false, true, false, false, false, false, false, false, false, false, false] rfl rfl (any_of HT_.out (by kernel_rfl)) (fun _ _ _ h => h) (Or.inl ⟨by rfl, ?_⟩) ?_ ?_; rotate_left
     ·
      intro w'; go_simp; with_reducible rfl
     rotate_left
     ·
      simp only [Act.put, List.setIfInBounds_toArray, List.set_cons_zero, List.set_cons_succ, i64_w, i32_w]; rfl
     refine pure_ (i := 2) (N := some 31) (v := ?_) (a' := ?_) #[false, true, true, false, false, false, false, false, false, false, false] rfl rfl (any_of HT_.out (by kernel_rfl)) (fun _ _ _ h => h) (Or.inl ⟨by rfl, ?_⟩) ?_ ?_; rotate_left
     ·
      intro w'; go_simp; with_reducible rfl
     rotate_left
     ·
      simp only [Act.put, List.setIfInBounds_toArray, List.set_cons_zero, List.set_cons_succ, i64_w, i32_w]; rfl
     refine pure_ (i := 3) (N := some 32) (v := ?_) (a' := ?_) #[false, true, true, true, false, false, false, false, false, false, false] rfl rfl (any_of HT_.out (by kernel_rfl)) (fun _ _ _ h => h) (Or.inl ⟨by rfl, ?_⟩) ?_ ?_; rotate_left
     ·
      intro w'; go_simp; with_reducible rfl
     rotate_left
     ·
      simp only [Act.put, List.setIfInBounds_toArray, List.set_cons_zero, List.set_cons_succ, i64_w, i32_w]; rfl
     refine pure_ (i := 5) (N := some 34) (v := ?_) (a' := ?_) #[false, true, true, true, false, true, false, false, false, false, false] rfl rfl (any_of HT_.out (by kernel_rfl)) (fun _ _ _ h => h) (Or.inl ⟨by rfl, ?_⟩) ?_ ?_; rotate_left
     ·
      intro w'; go_simp; with_reducible rfl
     rotate_left
     ·
      simp only [Act.put, List.setIfInBounds_toArray, List.set_cons_zero, List.set_cons_succ, i64_w, i32_w]; rfl
     refine pure_ (i := 6) (N := some 35) (v := ?_) (a' := ?_) #[false, true, true, true, false, true, true, false, false, false, false] rfl rfl (any_of HT_.out (by kernel_rfl)) (fun _ _ _ h => h) (Or.inl ⟨by rfl, ?_⟩) ?_ ?_; rotate_left
     ·
      intro w'; go_simp; with_reducible rfl
     rotate_left
     ·
      simp only [Act.put, List.setIfInBounds_toArray, List.set_cons_zero, List.set_cons_succ, i64_w, i32_w]; rfl
     refine pure_ (i := 7) (N := some 36) (v := ?_) (a' := ?_) #[false, true, true, true, false, true, true, true, false, false, false] rfl rfl (any_of HT_.out (by kernel_rfl)) (fun _ _ _ h => h) (Or.inl ⟨by rfl, ?_⟩) ?_ ?_; rotate_left
     ·
      intro w'; go_simp; with_reducible rfl
     rotate_left
     ·
      simp only [Act.put, List.setIfInBounds_toArray, List.set_cons_zero, List.set_cons_succ, i64_w, i32_w]; rfl
     refine take_ (i := 0) (N := some 29) (v := ?_) (a' := ?_) #[true, true, true, true, false, true, true, true, false, false, false] rfl rfl (take_ofW HT_.out HW_.out (by kernel_rfl)) (fun _ _ _ h => h) (Or.inl ⟨by rfl, ?_⟩) hHeld ?_ ?_; rotate_left
     ·
      rintro w' ⟨s0, s1, s2, s3, s4, s5⟩; go_simp; with_reducible rfl
     rotate_left
     ·
      simp only [Act.put, List.setIfInBounds_toArray, List.set_cons_zero, List.set_cons_succ, i64_w, i32_w]; rfl
     refine take_ (i := 4) (N := some 33) (v := ?_) (a' := ?_) #[true, true, true, true, true, true, true, true, false, false, false] rfl rfl (take_ofW HT_.out HW_.out (by kernel_rfl)) (fun _ _ _ h => h) (Or.inl ⟨by rfl, ?_⟩) hHeld ?_ ?_; rotate_left
     ·
      rintro w' ⟨s0, s1, s2, s3, s4, s5⟩; go_simp; with_reducible rfl
     rotate_left
     ·
      simp only [Act.put, List.setIfInBounds_toArray, List.set_cons_zero, List.set_cons_succ, i64_w, i32_w]; rfl
     refine take_ (i := 8) (N := some 37) (v := ?_) (a' := ?_) #[true, true, true, true, true, true, true, true, true, false, false] rfl rfl (take_ofW HT_.out HW_.out (by kernel_rfl)) (fun _ _ _ h => h) (Or.inl ⟨by rfl, ?_⟩) hHeld ?_ ?_; rotate_left
     ·
      rintro w' ⟨s0, s1, s2, s3, s4, s5⟩; go_simp; with_reducible rfl
     rotate_left
     ·
      simp only [Act.put, List.setIfInBounds_toArray, List.set_cons_zero, List.set_cons_succ, i64_w, i32_w]; rfl
     refine one_ (i := 9) (N := some 38) #[true, true, true, true, true, true, true, true, true, true, false] rfl rfl (one_of HT_.out (by kernel_rfl)) (by decide) (fun K hK => ?_); refine goes_ Try.func45 (by kernel_rfl) rfl #[aggM m, .int .i64 b, .string i0] (by rfl) rfl rfl (by simp only [List.map_toArray, List.map_cons, List.map_nil]; rfl) ?_; with_reducible refine ((behind_calls _ m b i0)).mono ?_
     rintro e w5 ⟨rfl, hb5⟩; refine ⟨_, rfl, ?_⟩; have HP5 := Lib.hid (HP2.out.below (below_then (below_drew (Below.refl _ _)) (Nat.le_refl _) hb5)); have HZ5 := Lib.hid (blk_below HZ2.out (below_then (below_drew (Below.refl _ _)) (Nat.le_refl _) hb5)); clear hb5; refine hK.out _ _ ⟨((blk_cell HZ5.out 0).trans rfl), ((blk_cell HZ5.out 1).trans rfl), ((blk_cell HZ5.out 2).trans rfl), ((blk_cell HZ5.out 3).trans rfl), ((blk_cell HP5.out.blk 7).trans rfl), ((blk_cell HP5.out.blk 8).trans rfl)⟩ (fun hHeld => ?_); clear hK K; refine norm_ (a' := ?_) ?_ ?_; rotate_left
     ·
      show Act.put _ (some 38) _ = _; simp only [Act.put, List.setIfInBounds_toArray, List.set_cons_zero, List.set_cons_succ, i64_w, i32_w]; rfl
     refine pure_ (i := 10) (N := some 39) (v := ?_) (a' := ?_) #[true, true, true, true, true, true, true, true, true, true, true] rfl rfl (any_of HT_.out (by kernel_rfl)) (fun _ _ _ h => h) (Or.inl ⟨by rfl, ?_⟩) ?_ ?_; rotate_left
     ·
      intro w'; go_simp; with_reducible rfl
     rotate_left
     ·
      simp only [Act.put, List.setIfInBounds_toArray, List.set_cons_zero, List.set_cons_succ, i64_w, i32_w]; rfl
     refine done_ (done_of HT_.out (by kernel_rfl)) ?_; clear z0 z1 z2 z3 y7 y8
     cases hq : behP m b i0 with
     | false =>
      have HFIN := Lib.hid (show pageA b0 j0 L0 false ms = ((b, i0, L), false) by rw [HE.out, HRUN.out, HDR.out, pageF, if_neg (by rw [hq]; simp)])
      go_wp2_with (first
       | (refine store_blk (t := 43) (p := .tmp 42) (v := .const (.int .i64 50)) (g := g) (off := 12) (cur := rcells x seq b i0 vL n false er0 vS) (cur' := rcells x seq b i0 vL n false 50 vS) (e := 60) (u := .int .i64 50) rfl rfl rfl rfl rfl HP5.out.blk (by kernel_rfl) (Nat.le_of_ble_eq_true rfl) (by rfl) (by rfl) ?_; intro Z3 hz3 hg3 hs3; have HP3 := Lib.hid (HP5.out.set hg3 hz3); clear hz3 hg3 hs3))
      go_end0; unfold PagedOut
      exact ⟨gx, bs, b, i0, L, vL, false, rfl, HFIN.out.symm, HP3.out⟩
     | true =>
      have HRUN2 := Lib.hid (show pageF b0 j0 L0 ms = pageF m.f1 m.f0 (L ++ [m]) (ms.drop (i + 1)) by rw [HRUN.out, HDR.out, pageF, if_pos hq]); have z0 : w5.cell? ⟨gz, 0, none⟩ = some (.string m.f0) := (blk_cell HZ5.out 0).trans rfl; have z1 : w5.cell? ⟨gz, 1, none⟩ = some (.int .i64 m.f1) := (blk_cell HZ5.out 1).trans rfl
      go_wp2_with (first
       | (refine store_blk (t := 3) (p := .tmp 47) (v := .tmp 45) (g := g) (off := 7) (cur := rcells x seq b i0 vL n false er0 vS) (cur' := rcells x seq m.f1 i0 vL n false er0 vS) (e := 60) (u := .int .i64 m.f1) rfl rfl rfl rfl rfl HP5.out.blk (by kernel_rfl) (Nat.le_of_ble_eq_true rfl) (by rfl) (by rfl) ?_; intro Z1 hz1 hg1 hs1; have HZ1 := Lib.hid (blk_other HZ5.out hg1 (fun e => by have h1 := HP5.out.blk; rw [← e, HZ5.out] at h1; injection (Option.some.inj h1) with _ h2; exact absurd h2 (by decide))); have HP1 := Lib.hid (HP5.out.set hg1 hz1); have z0' : Z1.cell? ⟨gz, 0, none⟩ = some (.string m.f0) := (blk_cell HZ1.out 0).trans rfl; clear hz1 hg1 hs1 z0 z1)
       | (refine store_blk (t := 9) (p := .tmp 52) (v := .tmp 50) (g := g) (off := 8) (cur := rcells x seq m.f1 i0 vL n false er0 vS) (cur' := rcells x seq m.f1 m.f0 vL n false er0 vS) (e := 60) (u := .string m.f0) rfl rfl rfl rfl rfl HP1.out.blk (by kernel_rfl) (Nat.le_of_ble_eq_true rfl) (by rfl) (by rfl) ?_; intro Z3 hz3 hg3 hs3; have HZ3 := Lib.hid (blk_other HZ1.out hg3 (fun e => by have h1 := HP1.out.blk; rw [← e, HZ1.out] at h1; injection (Option.some.inj h1) with _ h2; exact absurd h2 (by decide))); have HP3 := Lib.hid (HP1.out.set hg3 hz3); clear hz3 hg3 hs3 z0'))
      have z0 : Z3.cell? ⟨gz, 0, none⟩ = some (.string m.f0) := (blk_cell HZ3.out 0).trans rfl; have z1 : Z3.cell? ⟨gz, 1, none⟩ = some (.int .i64 m.f1) := (blk_cell HZ3.out 1).trans rfl; have z2 : Z3.cell? ⟨gz, 2, none⟩ = some (.int .i64 m.f2) := (blk_cell HZ3.out 2).trans rfl; have z3 : Z3.cell? ⟨gz, 3, none⟩ = some (.int .u32 m.f3) := (blk_cell HZ3.out 3).trans rfl; have y9 : Z3.cell? ⟨g, 9, none⟩ = some vL := (blk_cell HP3.out.blk 9).trans rfl; refine start_ (n := 11) (S := fun w' => w'.cell? ⟨g, 9, none⟩ = some vL ∧ w'.cell? ⟨gz, 0, none⟩ = some (.string m.f0) ∧ w'.cell? ⟨gz, 1, none⟩ = some (.int .i64 m.f1) ∧ w'.cell? ⟨gz, 2, none⟩ = some (.int .i64 m.f2) ∧ w'.cell? ⟨gz, 3, none⟩ = some (.int .u32 m.f3)) (ds := [7, 10]) #[false, false, false, false, false, false, false, false, false, false, false] (by kernel_rfl) rfl rfl ⟨y9, z0, z1, z2, z3⟩ (fun hHeld => ?_); refine with_tabW PPaged11.tab11 PPaged11.bits11 (fun HT_ HW_ => ?_); refine pure_ (i := 0) (N := some 53) (v := ?_) (a' := ?_) #[true, false, false, false, false, false, false, false, false, false, false] rfl rfl (any_of HT_.out (by kernel_rfl)) (fun _ _ _ h => h) (Or.inl ⟨by rfl, ?_⟩) ?_ ?_; rotate_left
      ·
       intro w'; go_simp; with_reducible rfl
      rotate_left
      ·
       simp only [Act.put, List.setIfInBounds_toArray, List.set_cons_zero, List.set_cons_succ, i64_w, i32_w]; rfl
      refine pure_ (i := 1) (N := some 54) (v := ?_) (a' := ?_) #[true, true, false, false, false, false, false, false, false, false, false] rfl rfl (any_of HT_.out (by kernel_rfl)) (fun _ _ _ h => h) (Or.inl ⟨by rfl, ?_⟩) ?_ ?_; rotate_left
      ·
       intro w'; go_simp; with_reducible rfl
      rotate_left
      ·
       simp only [Act.put, List.setIfInBounds_toArray, List.set_cons_zero, List.set_cons_succ, i64_w, i32_w]; rfl
      refine pure_ (i := 2) (N := some 55) (v := ?_) (a' := ?_) #[true, true, true, false, false, false, false, false, false, false, false] rfl rfl (any_of HT_.out (by kernel_rfl)) (fun _ _ _ h => h) (Or.inl ⟨by rfl, ?_⟩) ?_ ?_; rotate_left
      ·
       intro w'; go_simp; with_reducible rfl
      rotate_left
      ·
       simp only [Act.put, List.setIfInBounds_toArray, List.set_cons_zero, List.set_cons_succ, i64_w, i32_w]; rfl
      refine pure_ (i := 3) (N := some 56) (v := ?_) (a' := ?_) #[true, true, true, true, false, false, false, false, false, false, false] rfl rfl (any_of HT_.out (by kernel_rfl)) (fun _ _ _ h => h) (Or.inl ⟨by rfl, ?_⟩) ?_ ?_; rotate_left
      ·
       intro w'; go_simp; with_reducible rfl
      rotate_left
      ·
       simp only [Act.put, List.setIfInBounds_toArray, List.set_cons_zero, List.set_cons_succ, i64_w, i32_w]; rfl
      refine take_ (i := 4) (N := some 57) (v := ?_) (a' := ?_) #[true, true, true, true, true, false, false, false, false, false, false] rfl rfl (take_ofW HT_.out HW_.out (by kernel_rfl)) (fun _ _ _ h => h) (Or.inl ⟨by rfl, ?_⟩) hHeld ?_ ?_; rotate_left
      ·
       rintro w' ⟨s0, s1, s2, s3, s4⟩; go_simp; with_reducible rfl
      rotate_left
      ·
       simp only [Act.put, List.setIfInBounds_toArray, List.set_cons_zero, List.set_cons_succ, i64_w, i32_w]; rfl
      refine take_ (i := 5) (N := some 58) (v := ?_) (a' := ?_) #[true, true, true, true, true, true, false, false, false, false, false] rfl rfl (take_ofW HT_.out HW_.out (by kernel_rfl)) (fun _ _ _ h => h) (Or.inl ⟨by rfl, ?_⟩) hHeld ?_ ?_; rotate_left
      ·
       rintro w' ⟨s0, s1, s2, s3, s4⟩; go_simp; with_reducible rfl
      rotate_left
      ·
       simp only [Act.put, List.setIfInBounds_toArray, List.set_cons_zero, List.set_cons_succ, i64_w, i32_w]; rfl
      refine one_ (i := 6) (N := some 59) #[true, true, true, true, true, true, true, false, false, false, false] rfl rfl (one_of HT_.out (by kernel_rfl)) (by decide) (fun K hK => ?_); refine value_ (w1 := ?_) (v := ?_) (by rfl) rfl ?_ ?_; rotate_left 2
      ·
       go_simp
       constructor
       ·
        rfl
       ·
        rfl
      have hBX := below_drew (below_alloc (Below.refl Z3.heap.size Z3) (.cells #[.string m.f0, .int .i64 m.f1, .int .i64 m.f2, .int .u32 m.f3] 25))
      obtain ⟨gl, hgl⟩ : ∃ gl, gl = Z3.heap.size := ⟨_, rfl⟩
      have hRL := Kd.R_drew (R_singleM Z3 m w0.heap.size gl HP3.out.bel.size hgl)
      obtain ⟨X1, hX1⟩ : ∃ X1 : World, X1 = (Z3.alloc (.cells #[.string m.f0, .int .i64 m.f1, .int .i64 m.f2, .int .u32 m.f3] 25)).drew := ⟨_, rfl⟩
      rw [← hX1] at hRL hBX; rw [← hX1, ← hgl]; have HP4 := Lib.hid (HP3.out.below hBX); have HZ4 := Lib.hid (blk_below HZ3.out hBX); have HRL := Lib.hid hRL; clear hRL hBX hX1 hgl; refine hK.out _ _ ⟨((blk_cell HP4.out.blk 9).trans rfl), ((blk_cell HZ4.out 0).trans rfl), ((blk_cell HZ4.out 1).trans rfl), ((blk_cell HZ4.out 2).trans rfl), ((blk_cell HZ4.out 3).trans rfl)⟩ (fun hHeld => ?_); clear hK K; refine norm_ (a' := ?_) ?_ ?_; rotate_left
      ·
       show Act.put _ (some 59) _ = _; simp only [Act.put, List.setIfInBounds_toArray, List.set_cons_zero, List.set_cons_succ, i64_w, i32_w]; rfl
      refine last_ (i := 7) (N := some 60) #[true, true, true, true, true, true, true, true, false, false, false] rfl rfl (one_of HT_.out (by kernel_rfl)) (by decide) (fun K hK => ?_); refine Kd.R_append_rows_step k25 (Rr := k25.K X1) (w0 := w0) w0.heap.size (by rfl) (.tmp 57) (.tmp 59) 22 25 (.agg #[.string ⟨#[]⟩, .int .i64 0, .int .i64 0, .int .u32 0]) 40 (by rfl) Try.underlying22 info25 (by rfl) (by decide) (by decide) vL L [m] (some ⟨gl, 0, none⟩) 1 1 (fun _ => True) (fun _ => False) (by rfl) (by rfl) HP4.out.row (Kd.R_reads' HRL.out).2.2 (fun x cs hk => by obtain rfl := k25_open hk; exact k25_mkM _ _ _ x) (fun _ h => h.elim) (fun _ _ => trivial) HP4.out.bel HP4.out.bel.size (by have := HLO.out; omega) ?_; intro v5 X2 hR5 hB5 hg5 hat5; obtain ⟨A5, n5, c5, rfl⟩ : ∃ A n c, v5 = .slice A n c := by obtain ⟨A, c, e⟩ := Kd.R_slice hR5; exact ⟨A, _, c, e⟩
      have HAPP := Lib.hid (HP4.out.app hg5 hat5 hR5 hB5); have hbk := (hg5.block g (blk_lt HP4.out.blk) (Kd.R_ne HP4.out.row HP4.out.blk (by decide))).trans HP4.out.blk; have e9 : X2.cell? ⟨g, 9, none⟩ = some vL := (blk_cell hbk 9).trans rfl; have e9f : X2.frozen? ⟨g, 9, none⟩ = false := blk_frozen hbk 9; clear hR5 hB5 hg5 hat5 hbk; refine hK.out _ _ ?_; clear hK K; refine norm_ (a' := ?_) ?_ ?_; rotate_left
      ·
       show Act.put _ (some 60) _ = _; simp only [Act.put, List.setIfInBounds_toArray, List.set_cons_zero, List.set_cons_succ, i64_w, i32_w]; rfl
      refine pure_ (i := 8) (N := some 61) (v := ?_) (a' := ?_) #[true, true, true, true, true, true, true, true, true, false, false] rfl rfl (any_of HT_.out (by kernel_rfl)) (fun _ _ _ h => h) (Or.inl ⟨by rfl, ?_⟩) ?_ ?_; rotate_left
      ·
       intro w'; go_simp; with_reducible rfl
      rotate_left
      ·
       simp only [Act.put, List.setIfInBounds_toArray, List.set_cons_zero, List.set_cons_succ, i64_w, i32_w]; rfl
      refine pure_ (i := 9) (N := some 62) (v := ?_) (a' := ?_) #[true, true, true, true, true, true, true, true, true, true, false] rfl rfl (any_of HT_.out (by kernel_rfl)) (fun _ _ _ h => h) (Or.inl ⟨by rfl, ?_⟩) ?_ ?_; rotate_left
      ·
       intro w'; go_simp; with_reducible rfl
      rotate_left
      ·
       simp only [Act.put, List.setIfInBounds_toArray, List.set_cons_zero, List.set_cons_succ, i64_w, i32_w]; rfl
      refine last_ (i := 10) (N := none) #[true, true, true, true, true, true, true, true, true, true, true] rfl rfl (one_of HT_.out (by kernel_rfl)) (by decide) (fun K hK => ?_); refine skip_ (w1 := ?_) (by rfl) rfl ?_ ?_; rotate_left
      ·
       go_simp; rfl
      refine hK.out _ _ ?_; clear hK K; refine done_ (done_of HT_.out (by kernel_rfl)) ?_
      obtain ⟨X3, hX3⟩ : ∃ X3, X2.setCell ⟨g, 9, none⟩ (.slice A5 n5 c5) = X3 := ⟨_, rfl⟩
      have happ := HAPP.out; rw [hX3] at happ ⊢; have HP9 := Lib.hid happ; have HIN := Lib.hid (show ∀ k, k = ms.length - i → ms.length - (i + 1) < k by intro k hk; omega); have HL9 := Lib.hid (show (L ++ [m]).length = L0.length + (i + 1) by rw [List.length_append, HLL.out]; simp; omega); clear happ hX3 HAPP z0 z1 z2 z3 y9 e9 e9f; go_wp2; go_roundg (ms.length - (i + 1))
      case measure => go_light; exact HIN.out _ HN1.out
      case rel => exact ⟨i + 1, m.f1, m.f0, L ++ [m], .slice A5 n5 c5, by (simp [hwi]; done), ⟨rfl⟩, ⟨hi⟩, ⟨HRUN2.out⟩, ⟨HL9.out⟩, ⟨HP9.out⟩⟩
    ·
     have hge : ¬ (i : Int) < (ms.length : Int) := by omega
     have hie : i = ms.length := by have := HI.out; omega
     have HFIN := Lib.hid (show pageA b0 j0 L0 false ms = ((b, i0, L), true) by rw [HE.out, HRUN.out, hie, List.drop_length, pageF]); clear hie; have y13 := (BX.out gx wr HPW.out.bx).1
     go_wp2_with (first
      | (refine store_blk (t := 4) (p := .tmp 68) (v := .tmp 66) (g := g) (off := 11) (cur := rcells x seq b i0 vL n false er0 vS) (cur' := rcells x seq b i0 vL n true er0 vS) (e := 60) (u := .bool true) rfl rfl rfl rfl rfl HPW.out.blk (by kernel_rfl) (Nat.le_of_ble_eq_true rfl) (by rfl) (by rfl) ?_; intro Z3 hz3 hg3 hs3; have HP3 := Lib.hid (HPW.out.set hg3 hz3); clear hz3 hg3 hs3))
     go_end0; unfold PagedOut; exact ⟨gx, bs, b, i0, L, vL, true, rfl, HFIN.out.symm, HP3.out⟩
end Ps
end Go.Proofs.Ytgagcimfkmegnaa
