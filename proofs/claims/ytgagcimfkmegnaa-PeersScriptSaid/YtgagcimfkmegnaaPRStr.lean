/- The document's fetch: stream. -/
import Derived.Test.YtgagcimfkmegnaaPRef
import Derived.Test.YtgagcimfkmegnaaPStr
import Derived.Test.YtgagcimfkmegnaaRefAddV
set_option maxHeartbeats 8000000
set_option maxRecDepth 100000
namespace Go.Proofs.Ytgagcimfkmegnaa
set_option linter.unusedVariables false
set_option linter.unusedSimpArgs false
open Go.RowKit Go.Proofs.YtgagcimfkmegnaaW.PrintWords Go.Proofs.YtgagcimfkmegnaaW.PrintLast Go.Proofs.YtgagcimfkmegnaaW.PrintMore Go.Proofs.Ytgagcimfkmegnaa.QT
namespace Ps
def add1 (rg : S30) (n : ByteArray) (S : List S65) (p : Pt) : List S65 := if rg.f0 ≤ p.f0 ∧ p.f0 < rg.f1 then Ra.insS n p S else S
def addP (rg : S30) (n : ByteArray) (S : List S65) (P : List Pt) : List S65 := P.foldl (add1 rg n) S
def Lens (S : List S65) (T : Nat) : Prop := S.length ≤ T ∧ ∀ s ∈ S, s.f1.length ≤ T
theorem Lens.more {S : List S65} {T T' : Nat} (h : Lens S T) (hT : T ≤ T') : Lens S T' := ⟨Nat.le_trans h.1 hT, fun s hs => Nat.le_trans (h.2 s hs) hT⟩
theorem Lens.ins {S : List S65} {T : Nat} (h : Lens S T) (n : ByteArray) (p : Pt) : Lens (Ra.insS n p S) (T + 1) :=
 ⟨Nat.le_trans (Ra.insS_len n p S) (Nat.succ_le_succ h.1), Ra.insS_lens n p T S h.2⟩
theorem add1_take {rg : S30} {n : ByteArray} {l : List Pt} {i : Nat} (h : i < l.length) (S : List S65) : (l.take (i + 1)).foldl (add1 rg n) S = add1 rg n ((l.take i).foldl (add1 rg n) S) l[i] := by
 rw [List.take_succ_eq_append_getElem h, List.foldl_append]; rfl
theorem rdPt {l : List Pt} {i : Nat} (h : i < l.length) : rd_T42 l (i : Int) = l[i] := by
 unfold rd_T42; rw [Int.toNat_natCast, List.getD_eq_getElem?_getD, List.getElem?_eq_getElem h]; rfl
theorem addS_any (w : World) (Q : Nat → Prop) (A : Option Addr) (c : Nat) (l : List S65) (n : ByteArray) (p : Pt) (hV : Kd.V k65 65 w 0 Q (.slice A l.length c) l) (hl : Lens l 1000000) :
  Calls Try.prog 47 #[.slice A l.length c, .string n, .agg #[.int .i64 p.f0, .int .u64 p.f1, .int .u64 p.f2]] w fun e w' => ∃ v' : Value, e = .returned v' ∧ Kd.N k65 65 w' w.heap.size (fun k => Q k ∨ w.heap.size ≤ k) v' (Ra.insS n p l) ∧ Below w.heap.size w w' := by
 obtain ⟨k, hk⟩ := (Ra.add11_ev n p l hl.1 hl.2).rounds; exact thermographref11_Add.calls k Q A c l n p.f0 p.f1 p.f2 _ w hV hk
/-- The memory of the document's fetch while a block's points are read. -/
structure RS (w0 w wr : World) (g gx gz : Nat) (x : Fx) (seq b n : Int) (i : ByteArray) (vL : Value) (pg : Bool) (bs : Array Value) (m : Me) (er : Int) (v1 : Value) (S1 : List S65) (Q : Nat → Prop) (T1 : Nat) : Prop where
 blk : wr.heap[g]? = some (.cells (rcells x seq b i vL n pg er v1) 60 (0, 0))
 bx : wr.heap[gx]? = some (.cells bs 49 (0, 0))
 bz : wr.heap[gz]? = some (.cells #[.string m.f0, .int .i64 m.f1, .int .i64 m.f2, .int .u32 m.f3] 25 (0, 0))
 V : Kd.V k65 65 wr 0 (fun k => Q k ∨ w.heap.size ≤ k) v1 S1
 len : Lens S1 T1
 bel : Below w0.heap.size w0 wr
 kept : Kept w wr (fun k => k = g)
section
variable {w0 w wr : World} {g gx gz : Nat} {x : Fx} {seq b n : Int} {i : ByteArray} {vL : Value} {pg : Bool} {bs : Array Value} {m : Me} {er : Int} {v1 : Value} {S1 : List S65} {Q : Nat → Prop} {T1 : Nat}
theorem RS.below (h : RS w0 w wr g gx gz x seq b n i vL pg bs m er v1 S1 Q T1) {W : World} (hb : Below wr.heap.size wr W) : RS w0 w W g gx gz x seq b n i vL pg bs m er v1 S1 Q T1 :=
 ⟨blk_below h.blk hb, blk_below h.bx hb, blk_below h.bz hb, Kd.V_below h.V hb, h.len, below_then h.bel h.bel.size hb, h.kept.below hb⟩
theorem RS.more (h : RS w0 w wr g gx gz x seq b n i vL pg bs m er v1 S1 Q T1) {T2 : Nat} (hT : T1 ≤ T2) : RS w0 w wr g gx gz x seq b n i vL pg bs m er v1 S1 Q T2 := ⟨h.blk, h.bx, h.bz, h.V, h.len.more hT, h.bel, h.kept⟩
theorem RS.nx (h : RS w0 w wr g gx gz x seq b n i vL pg bs m er v1 S1 Q T1) : gx ≠ g ∧ gz ≠ g := ⟨fun e => by
  have h1 := h.bx; rw [e, h.blk] at h1
  injection (Option.some.inj h1) with _ h2
  exact absurd h2 (by decide), fun e => by
  have h1 := h.bz; rw [e, h.blk] at h1
  injection (Option.some.inj h1) with _ h2
  exact absurd h2 (by decide)⟩
/-- The fetch's block is written; the series stand. -/
theorem RS.set (h : RS w0 w wr g gx gz x seq b n i vL pg bs m er v1 S1 Q T1) (hgl : g < w.heap.size) (hQ : ∀ k, Q k → k ≠ g) (hg0 : w0.heap.size ≤ g) {w1 : World} (hg : wr.grownBy w1 (some g)) {n' er' : Int} (hb : w1.heap[g]? = some (.cells (rcells x seq b i vL n' pg er' v1) 60 (0, 0))) : RS w0 w w1 g gx gz x seq b n' i vL pg bs m er' v1 S1 Q T1 :=
 ⟨hb, blk_other h.bx hg h.nx.1, blk_other h.bz hg h.nx.2, Kd.V_mono (Kd.V_grown (Kd.V_bound h.V) hg (fun k hk e => by
   have e : k = g := by cases e; rfl
   rcases hk.1 with h1 | h1
   ·
    exact hQ k h1 e
   ·
    rw [e] at h1; exact absurd hgl (by show ¬ g < w.heap.size; have : w.heap.size ≤ g := h1; omega))) (fun k hk => hk.1), h.len, below_grow h.bel hg hg0, Kept.of_grown hg h.kept (fun k hk => .inl (by cases hk; rfl))⟩
theorem RS.put (h : RS w0 w wr g gx gz x seq b n i vL pg bs m er v1 S1 Q T1) (hgl : g < w.heap.size) (hQ : ∀ k, Q k → k ≠ g) (hg0 : w0.heap.size ≤ g) {w5 : World} {v5 : Value} (nm : ByteArray) (p : Pt) (hb : Below wr.heap.size wr w5) (hN : Kd.N k65 65 w5 wr.heap.size (fun k => (Q k ∨ w.heap.size ≤ k) ∨ wr.heap.size ≤ k) v5 (Ra.insS nm p S1)) :
  RS w0 w (w5.setCell ⟨g, 13, none⟩ v5) g gx gz x seq b n i vL pg bs m er v5 (Ra.insS nm p S1) Q (T1 + 1) := by
 have hsz := h.kept.1; have h5 := h.below hb; refine ⟨blk_set h5.blk 13 v5, (Below.heap_setCell w5 ⟨g, 13, none⟩ v5 gx h5.nx.1).trans h5.bx, (Below.heap_setCell w5 ⟨g, 13, none⟩ v5 gz h5.nx.2).trans h5.bz, Kd.V_far (ok := fun k => Q k ∨ w.heap.size ≤ k) (Kd.V_mono (base := 0) (Kd.N_V (base' := 0) hN) ?_) ?_ v5, h.len.ins nm p, h5.bel.setCell hg0 _, h5.kept.setCell (.inl rfl) _⟩
 ·
  rintro k (h1 | h1)
  ·
   exact h1
  ·
   exact .inr (Nat.le_trans hsz h1)
 ·
  rintro k (h1 | h1)
  ·
   exact hQ k h1
  ·
   intro e; rw [e] at h1; exact absurd hgl (by show ¬ g < w.heap.size; have : w.heap.size ≤ g := h1; omega)
end
/-- What the document's stream leaves. -/
def RStOut (w0 w : World) (g : Nat) (x : Fx) (seq b : Int) (n : Nat) (i : ByteArray) (vL : Value) (pg : Bool) (er : Int) (m : Me) (vS : Value) (S : List S65) (Q : Nat → Prop) (T : Nat) (P : List Pt) (e : Ending) (w' : World) : Prop :=
 ∃ (gx gz : Nat) (bs : Array Value) (v1 : Value), e = .returned (.tuple #[]) ∧ (okP m x.sz P = false → RS w0 w w' g gx gz x seq b n i vL pg bs m 50 v1 S Q T) ∧ (okP m x.sz P = true → RS w0 w w' g gx gz x seq b (n + 1 : Nat) i vL pg bs m er v1 (addP x.rg m.f0 S P) Q (T + P.length))
def PRStr1.T1 : Bool × List (List Nat × List Nat) := (true, [([], []), ([0], [0]), ([1], [1]), ([2], [2]), ([], []), ([4], [4]), ([5], [5]), ([6], [6]), ([3, 7], [3, 7]), ([8], [8]), ([], []), ([10, 9, 0, 1, 2, 3, 4, 5, 6, 7, 8, 9, 10], [9, 10])])
def PRStr1.B1 : List Nat := [0, 1, 3, 7, 0, 16, 48, 112, 255, 511, 0, 2047]
theorem PRStr1.tab1 : rtab .any (opsOf Try.f31 1) = PRStr1.T1 := by kernel_rfl
theorem PRStr1.bits1 : waitsOk PRStr1.T1.2 PRStr1.B1 = true := by kernel_rfl
def PRStr14.T14 : Bool × List (List Nat × List Nat) := (true, [([], []), ([], []), ([1], [1]), ([2], [2]), ([3], [3]), ([], []), ([5], [5]), ([], []), ([7], [7]), ([], []), ([8, 9], [8, 9]), ([10], [10]), ([4, 6, 11], [4, 6, 11]), ([0, 0, 1, 2, 3, 4, 5, 6, 7, 8, 9, 10, 11, 12], [0]), ([13, 0, 1, 2, 3, 4, 5, 6, 7, 8, 9, 10, 11, 12], [13]), ([14, 12, 12, 0, 1, 2, 3, 4, 5, 6, 7, 8, 9, 10, 11, 12], [12, 14])])
def PRStr14.B14 : List Nat := [0, 0, 2, 6, 14, 0, 32, 0, 128, 0, 896, 1920, 4094, 8191, 16383, 32767]
theorem PRStr14.tab14 : rtab .any (opsOf Try.f31 14) = PRStr14.T14 := by kernel_rfl
theorem PRStr14.bits14 : waitsOk PRStr14.T14.2 PRStr14.B14 = true := by kernel_rfl
theorem rstream_calls (w0 w : World) (g : Nat) (x : Fx) (seq b : Int) (n : Nat) (i0 : ByteArray) (vL : Value) (L : List Me) (pg : Bool) (er : Int) (vS : Value) (S : List S65) (Q : Nat → Prop) (T : Nat) (m0 : S46) (A1 : Option Addr) (c1 : Nat) (A2 : Option Addr) (c2 : Nat)
  (hb : w.heap[g]? = some (.cells (rcells x seq b i0 vL n pg er vS) 60 (0, 0))) (hR : Kd.R k25 25 w w0.heap.size (fun _ => True) vL L) (hV : Kd.V k65 65 w 0 Q vS S) (hQ : ∀ k, Q k → k ≠ g) (hS : Lens S T) (hB : Below w0.heap.size w0 w) (hg : w0.heap.size ≤ g) (hnl : n < L.length) (hln : L.length ≤ 1000000)
  (hC : Kd.C k42 w0 A1 m0.f11.length m0.f11) (hc : m0.f11.length ≤ c1) (hT : T + m0.f11.length ≤ 1000000) :
  Calls Try.prog 31 #[.pointer (some ⟨g, 0, none⟩), .agg (mcs m0 A1 c1 A2 c2)] w (RStOut w0 w g x seq b n i0 vL pg er (rd_T25 L n) vS S Q T m0.f11) := by
 obtain ⟨AL, cL, rfl⟩ := Kd.R_slice hR
 obtain ⟨P, hP⟩ : ∃ P, m0.f11 = P := ⟨_, rfl⟩
 obtain ⟨m, hm⟩ : ∃ m, rd_T25 L n = m := ⟨_, rfl⟩
 unfold mcs; rw [hP] at hC hc hT ⊢; rw [hm]; have HB := Lib.hid hb; have HR := Lib.hid hR; have HVV := Lib.hid hV; have HQ := Lib.hid hQ; have HS := Lib.hid hS; have HBW := Lib.hid hB; have HG := Lib.hid hg; have HC := Lib.hid hC; have HCC := Lib.hid hc; have HT := Lib.hid hT; have HM := Lib.hid hm; have HGL := Lib.hid (blk_lt hb); have hz : (0 : Int) ≤ (n : Int) := by omega
 have hni : (n : Int) < (L.length : Int) := by omega
 have hwn : wrap64 ((n : Int) + 1) = ((n + 1 : Nat) : Int) := by unfold wrap64; omega
 clear hb hR hV hQ hS hB hg hC hc hT hm hP hnl hln
 obtain ⟨bs, hbs⟩ : ∃ bs, bs = #[Value.int .i64 m0.f0, .int .i64 m0.f1, .int .i64 m0.f2, .int .i64 m0.f3, .int .i64 m0.f4, .string m0.f5, .int .i64 m0.f6, .int .i64 m0.f7.f0, .int .i64 m0.f7.f1, .int .i64 m0.f8.f0, .int .u64 m0.f8.f1, .int .u64 m0.f8.f2, .int .i64 m0.f9, .bool m0.f10, .slice A1 P.length c1, .slice A2 m0.f12.length c2] := ⟨_, rfl⟩
 have HBS := Lib.hid hbs; clear hbs; go_enter Try.func31, Try.ntmps31
 go_wp2_with (first
  | ((with_reducible refine gate_dst (N := 3) rfl ?_); refine box_event rfl (N := 3) rfl (cs := #[.int .i64 m0.f0, .int .i64 m0.f1, .int .i64 m0.f2, .int .i64 m0.f3, .int .i64 m0.f4, .string m0.f5, .int .i64 m0.f6, .int .i64 m0.f7.f0, .int .i64 m0.f7.f1, .int .i64 m0.f8.f0, .int .u64 m0.f8.f1, .int .u64 m0.f8.f2, .int .i64 m0.f9, .bool m0.f10, .slice A1 P.length c1, .slice A2 m0.f12.length c2]) (t := 49) ?hr ?_; (case hr => go_simp; done); intro gx hgx Y hboy0 hbY; have hboy : Y.heap[gx]? = some (.cells bs 49 (0, 0)) := (by rw [HBS.out]; exact hboy0); have HY := Lib.hid (And.intro hboy hbY); clear hgx hboy0 hboy hbY))
 have s9 : Y.cell? ⟨g, 9, none⟩ = some (.slice AL L.length cL) := (blk_cell (blk_below HB.out HY.out.2) 9).trans rfl; have s10 : Y.cell? ⟨g, 10, none⟩ = some (.int .i64 n) := (blk_cell (blk_below HB.out HY.out.2) 10).trans rfl; obtain ⟨ad, hA, p0, p1, p2, p3⟩ := at_T25 (Kd.R_reads' (Kd.R_below HR.out HY.out.2)).2.2 (n : Int) hz hni; cases hA; rw [HM.out, Int.toNat_natCast] at p0 p1 p2 p3; refine start_ (n := 12) (S := fun w' => w'.cell? ⟨g, 9, none⟩ = some (.slice (some ad) L.length cL) ∧ w'.cell? ⟨g, 10, none⟩ = some (.int .i64 n) ∧ w'.cell? (ad.add (n * 4)) = some (.string m.f0) ∧ w'.cell? ⟨(ad.add (n * 4)).block, (ad.add (n * 4)).off + 1, none⟩ = some (.int .i64 m.f1) ∧ w'.cell? ⟨(ad.add (n * 4)).block, (ad.add (n * 4)).off + 2, none⟩ = some (.int .i64 m.f2) ∧ w'.cell? ⟨(ad.add (n * 4)).block, (ad.add (n * 4)).off + 3, none⟩ = some (.int .u32 m.f3)) (ds := [11]) #[false, false, false, false, false, false, false, false, false, false, false, false] (by kernel_rfl) rfl rfl ⟨s9, s10, p0, p1, p2, p3⟩ (fun hHeld => ?_); refine with_tabW PRStr1.tab1 PRStr1.bits1 (fun HT_ HW_ => ?_); refine pure_ (i := 0) (N := some 8) (v := ?_) (a' := ?_) #[true, false, false, false, false, false, false, false, false, false, false, false] rfl rfl (any_of HT_.out (by kernel_rfl)) (fun _ _ _ h => h) (Or.inl ⟨by rfl, ?_⟩) ?_ ?_; rotate_left
 ·
  intro w'; go_simp; with_reducible rfl
 rotate_left
 ·
  simp only [Act.put, List.setIfInBounds_toArray, List.set_cons_zero, List.set_cons_succ, i64_w, i32_w]; rfl
 refine pure_ (i := 1) (N := some 9) (v := ?_) (a' := ?_) #[true, true, false, false, false, false, false, false, false, false, false, false] rfl rfl (any_of HT_.out (by kernel_rfl)) (fun _ _ _ h => h) (Or.inl ⟨by rfl, ?_⟩) ?_ ?_; rotate_left
 ·
  intro w'; go_simp; with_reducible rfl
 rotate_left
 ·
  simp only [Act.put, List.setIfInBounds_toArray, List.set_cons_zero, List.set_cons_succ, i64_w, i32_w]; rfl
 refine pure_ (i := 2) (N := some 10) (v := ?_) (a' := ?_) #[true, true, true, false, false, false, false, false, false, false, false, false] rfl rfl (any_of HT_.out (by kernel_rfl)) (fun _ _ _ h => h) (Or.inl ⟨by rfl, ?_⟩) ?_ ?_; rotate_left
 ·
  intro w'; go_simp; with_reducible rfl
 rotate_left
 ·
  simp only [Act.put, List.setIfInBounds_toArray, List.set_cons_zero, List.set_cons_succ, i64_w, i32_w]; rfl
 refine pure_ (i := 4) (N := some 12) (v := ?_) (a' := ?_) #[true, true, true, false, true, false, false, false, false, false, false, false] rfl rfl (any_of HT_.out (by kernel_rfl)) (fun _ _ _ h => h) (Or.inl ⟨by rfl, ?_⟩) ?_ ?_; rotate_left
 ·
  intro w'; go_simp; with_reducible rfl
 rotate_left
 ·
  simp only [Act.put, List.setIfInBounds_toArray, List.set_cons_zero, List.set_cons_succ, i64_w, i32_w]; rfl
 refine pure_ (i := 5) (N := some 13) (v := ?_) (a' := ?_) #[true, true, true, false, true, true, false, false, false, false, false, false] rfl rfl (any_of HT_.out (by kernel_rfl)) (fun _ _ _ h => h) (Or.inl ⟨by rfl, ?_⟩) ?_ ?_; rotate_left
 ·
  intro w'; go_simp; with_reducible rfl
 rotate_left
 ·
  simp only [Act.put, List.setIfInBounds_toArray, List.set_cons_zero, List.set_cons_succ, i64_w, i32_w]; rfl
 refine pure_ (i := 6) (N := some 14) (v := ?_) (a' := ?_) #[true, true, true, false, true, true, true, false, false, false, false, false] rfl rfl (any_of HT_.out (by kernel_rfl)) (fun _ _ _ h => h) (Or.inl ⟨by rfl, ?_⟩) ?_ ?_; rotate_left
 ·
  intro w'; go_simp; with_reducible rfl
 rotate_left
 ·
  simp only [Act.put, List.setIfInBounds_toArray, List.set_cons_zero, List.set_cons_succ, i64_w, i32_w]; rfl
 refine take_ (i := 3) (N := some 11) (v := ?_) (a' := ?_) #[true, true, true, true, true, true, true, false, false, false, false, false] rfl rfl (take_ofW HT_.out HW_.out (by kernel_rfl)) (fun _ _ _ h => h) (Or.inl ⟨by rfl, ?_⟩) hHeld ?_ ?_; rotate_left
 ·
  rintro w' ⟨s0, s1, s2, s3, s4, s5⟩; go_simp; with_reducible rfl
 rotate_left
 ·
  simp only [Act.put, List.setIfInBounds_toArray, List.set_cons_zero, List.set_cons_succ, i64_w, i32_w]; rfl
 refine take_ (i := 7) (N := some 15) (v := ?_) (a' := ?_) #[true, true, true, true, true, true, true, true, false, false, false, false] rfl rfl (take_ofW HT_.out HW_.out (by kernel_rfl)) (fun _ _ _ h => h) (Or.inl ⟨by rfl, ?_⟩) hHeld ?_ ?_; rotate_left
 ·
  rintro w' ⟨s0, s1, s2, s3, s4, s5⟩; go_simp; with_reducible rfl
 rotate_left
 ·
  simp only [Act.put, List.setIfInBounds_toArray, List.set_cons_zero, List.set_cons_succ, i64_w, i32_w]; rfl
 refine pure_ (i := 8) (N := some 16) (v := ?_) (a' := ?_) #[true, true, true, true, true, true, true, true, true, false, false, false] rfl rfl (any_of HT_.out (by kernel_rfl)) (fun _ _ _ h => h) (Or.inl ⟨by rfl, ?_⟩) ?_ ?_; rotate_left
 ·
  intro w'; go_simp; with_reducible rfl
 rotate_left
 ·
  simp only [Act.put, List.setIfInBounds_toArray, List.set_cons_zero, List.set_cons_succ, i64_w, i32_w]; rfl
 refine take_ (i := 9) (N := some 17) (v := ?_) (a' := ?_) #[true, true, true, true, true, true, true, true, true, true, false, false] rfl rfl (take_ofW HT_.out HW_.out (by kernel_rfl)) (fun _ _ _ h => h) (Or.inl ⟨by rfl, ?_⟩) hHeld ?_ ?_; rotate_left
 ·
  rintro w' ⟨s0, s1, s2, s3, s4, s5⟩; go_simp; with_reducible rfl
 rotate_left
 ·
  simp only [Act.put, List.setIfInBounds_toArray, List.set_cons_zero, List.set_cons_succ, i64_w, i32_w]; rfl
 refine one_ (i := 10) (N := some 4) #[true, true, true, true, true, true, true, true, true, true, true, false] rfl rfl (one_of HT_.out (by kernel_rfl)) (by decide) (fun K hK => ?_); refine value_ (w1 := ?_) (v := ?_) (by rfl) rfl ?_ ?_; rotate_left 2
 ·
  go_simp
  constructor
  ·
   rfl
  ·
   rfl
 obtain ⟨gz, hgz⟩ : ∃ gz, gz = Y.heap.size := ⟨_, rfl⟩
 have hbz : ((Y.alloc (.cells #[.string ⟨#[]⟩, .int .i64 0, .int .i64 0, .int .u32 0] 25)).drew).heap[gz]? = some (.cells #[.string ⟨#[]⟩, .int .i64 0, .int .i64 0, .int .u32 0] 25 (0, 0)) := by rw [hgz]; exact blk_new Y _
 have hBX : Below Y.heap.size Y ((Y.alloc (.cells #[.string ⟨#[]⟩, .int .i64 0, .int .i64 0, .int .u32 0] 25)).drew) := below_drew (below_alloc (Below.refl _ _) _)
 obtain ⟨Z, hZ⟩ : ∃ Z : World, Z = (Y.alloc (.cells #[.string ⟨#[]⟩, .int .i64 0, .int .i64 0, .int .u32 0] 25)).drew := ⟨_, rfl⟩
 rw [← hZ] at hbz hBX; rw [← hZ, ← hgz]; have HZ := Lib.hid (And.intro hgz (And.intro hbz hBX)); clear hbz hBX hZ hgz; refine hK.out _ _ ⟨(pw_cell_below HZ.out.2.2 s9), (pw_cell_below HZ.out.2.2 s10), (pw_cell_below HZ.out.2.2 p0), (pw_cell_below HZ.out.2.2 p1), (pw_cell_below HZ.out.2.2 p2), (pw_cell_below HZ.out.2.2 p3)⟩ (fun hHeld => ?_); clear hK K; refine norm_ (a' := ?_) ?_ ?_; rotate_left
 ·
  show Act.put _ (some 4) _ = _; simp only [Act.put, List.setIfInBounds_toArray, List.set_cons_zero, List.set_cons_succ, i64_w, i32_w]; rfl
 refine last_ (i := 11) (N := none) #[true, true, true, true, true, true, true, true, true, true, true, true] rfl rfl (one_of HT_.out (by kernel_rfl)) (by decide) (fun K hK => ?_); refine skip_ (w1 := Z.setCells gz 0 (Value.agg #[.string m.f0, .int .i64 m.f1, .int .i64 m.f2, .int .u32 m.f3]).cells.toList) (by rfl) rfl (store_run (t := 25) (p := .tmp 4) (v := .tmp 17) (g := gz) (off := 0) (cur := #[.string ⟨#[]⟩, .int .i64 0, .int .i64 0, .int .u32 0]) (e := 25) (u := .agg #[.string m.f0, .int .i64 m.f1, .int .i64 m.f2, .int .u32 m.f3]) (by rfl) (by rfl) (by rfl) HZ.out.2.1 (by kernel_rfl) (Nat.le_of_ble_eq_true rfl) (by rfl)) ?_; refine hK.out _ _ ?_; clear hK K; refine done_ (done_of HT_.out (by kernel_rfl)) ?_; obtain ⟨Z2, hZ2, hz2, hg2⟩ := cells_set (off := 0) (cur' := #[.string m.f0, .int .i64 m.f1, .int .i64 m.f2, .int .u32 m.f3]) (vs := (Value.agg #[.string m.f0, .int .i64 m.f1, .int .i64 m.f2, .int .u32 m.f3]).cells.toList) HZ.out.2.1 (Nat.le_of_ble_eq_true rfl) (by rfl); rw [← hZ2]; have hbz2 := below_grow HZ.out.2.2 hg2 (Nat.le_of_eq HZ.out.1.symm)
 have HP := Lib.hid (show RS w0 w Z2 g gx gz x seq b n i0 (.slice (some ad) L.length cL) pg bs m er vS S Q T from
  ⟨blk_below (blk_below HB.out HY.out.2) hbz2, blk_below HY.out.1 hbz2, hz2, Kd.V_mono (Kd.V_below (Kd.V_below HVV.out HY.out.2) hbz2) (fun k hk => .inl hk), HS.out, below_then (below_then HBW.out HBW.out.size HY.out.2) (below_then HBW.out HBW.out.size HY.out.2).size hbz2, (Kept.of_below HY.out.2 _).below hbz2⟩)
 have BX := Lib.hid (show ∀ W : World, W.heap[gx]? = some (.cells bs 49 (0, 0)) → W.cell? ⟨gx, 14, none⟩ = some (.slice A1 P.length c1) from fun W hW => (blk_cell hW 14).trans (by rw [HBS.out]; rfl)); clear hZ2 hz2 hg2 hbz2 s9 s10 p0 p1 p2 p3; have x14 := BX.out _ HP.out.bx
 obtain ⟨ck, hcke⟩ : ∃ ck, chkP P = ck := ⟨_, rfl⟩
 have hck := rcheck_calls Z2 A1 c1 P (Kd.C_below HC.out HP.out.bel) HCC.out; rw [hcke] at hck; have HCK := Lib.hid hck; have HCE := Lib.hid hcke; clear hck hcke; go_wp2_with fail
 with_reducible refine HCK.out.mono ?_
 rintro e w3 ⟨rfl, hb3⟩; have HP3 := Lib.hid (HP.out.below hb3); clear hb3 x14 HCK HP
 by_cases hk : ck = 0
 case neg =>
  have d1 : (ck != 0) = true := bne_iff_ne.2 hk; have HOK := Lib.hid (show okP m x.sz P = false by unfold okP; rw [HCE.out, beq_eq_false_iff_ne.2 hk]; rfl); clear hk
  go_wp2_with (first
   | (refine store_blk (t := 43) (p := .tmp 24) (v := .const (.int .i64 50)) (g := g) (off := 12) (cur := rcells x seq b i0 (.slice (some ad) L.length cL) n pg er vS) (cur' := rcells x seq b i0 (.slice (some ad) L.length cL) n pg 50 vS) (e := 60) (u := .int .i64 50) rfl rfl rfl rfl rfl HP3.out.blk (by kernel_rfl) (Nat.le_of_ble_eq_true rfl) (by rfl) (by rfl) ?_; intro Z3 hz3 hg3 hs3; have HQ3 := Lib.hid (HP3.out.set HGL.out HQ.out HG.out hg3 hz3); clear hz3 hg3 hs3))
  go_end0; unfold RStOut; exact ⟨gx, gz, bs, vS, rfl, fun _ => HQ3.out, fun h => by rw [HOK.out] at h; cases h⟩
 case pos =>
 have d1 : (ck != 0) = false := by rw [hk]; rfl
 have HOKA := Lib.hid (show okP m x.sz P = !P.any (oddP m.f1 x.sz) by unfold okP; rw [HCE.out, hk]; rfl); clear hk; go_wp2_with fail
 go_loopg [5, 6] P.length (fun gn v5 v6 wr => ∃ (j : Nat), v5 = .int .i64 (j : Int) ∧ Aside0 (gn = P.length - j) ∧ Aside0 (j ≤ P.length) ∧ Aside0 (P.any (oddP m.f1 x.sz) = (P.drop j).any (oddP m.f1 x.sz)) ∧ Aside0 (RS w0 w wr g gx gz x seq b n i0 (.slice (some ad) L.length cL) pg bs m er vS S Q T))
 case atStart => exact ⟨0, rfl, ⟨rfl⟩, ⟨Nat.zero_le _⟩, ⟨rfl⟩, ⟨HP3.out⟩⟩
 case round =>
  clear HP3; obtain ⟨j, rfl, HNJ, HJ, HA, HRJ⟩ := hrel; have x14 := BX.out _ HRJ.out.bx
  by_cases hj : j < P.length
  ·
   have hj0 : (j : Int) < (P.length : Int) := by omega
   have hzj : (0 : Int) ≤ (j : Int) := by omega
   have hwj : wrap64 ((j : Int) + 1) = ((j + 1 : Nat) : Int) := by have := HT.out; unfold wrap64; omega
   obtain ⟨ap, hA1, s0, s1, s2⟩ := at_T42 (Kd.C_below HC.out HRJ.out.bel) (j : Int) hzj hj0; cases hA1
   obtain ⟨p, hp⟩ : ∃ p, rd_T42 P (j : Int) = p := ⟨_, rfl⟩
   rw [hp, Int.toNat_natCast] at s0
   have hdr : P.drop j = p :: P.drop (j + 1) := by
    rw [List.drop_eq_getElem_cons hj, ← hp, rdPt hj]
   have HDR := Lib.hid hdr; have HJN := Lib.hid (show ∀ k, k = P.length - j → P.length - (j + 1) < k by intro k hk; omega); have z1 : wr.cell? ⟨gz, 1, none⟩ = some (.int .i64 m.f1) := (blk_cell HRJ.out.bz 1).trans rfl; have y2 : wr.cell? ⟨g, 2, none⟩ = some (.int .i64 x.sz) := (blk_cell HRJ.out.blk 2).trans rfl; clear hp hdr s1 s2; go_wp2_with fail
   have hodd : oddP m.f1 x.sz p = (decide (p.f0 < m.f1) || decide (wrap64 (p.f0 - m.f1) ≥ x.sz)) := rfl; have HODD := Lib.hid hodd; clear hodd
   cases hd : decide (p.f0 < m.f1) with
   | true =>
    have HOK := Lib.hid (show okP m x.sz P = false by rw [HOKA.out, HA.out, HDR.out, List.any_cons, HODD.out, hd]; rfl); go_quiet (fail)
    go_wp2_with (first
     | (refine store_blk (t := 43) (p := .tmp 55) (v := .const (.int .i64 50)) (g := g) (off := 12) (cur := rcells x seq b i0 (.slice (some ad) L.length cL) n pg er vS) (cur' := rcells x seq b i0 (.slice (some ad) L.length cL) n pg 50 vS) (e := 60) (u := .int .i64 50) rfl rfl rfl rfl rfl HRJ.out.blk (by kernel_rfl) (Nat.le_of_ble_eq_true rfl) (by rfl) (by rfl) ?_; intro Z3 hz3 hg3' hs3; have hg3 : wr.grownBy Z3 (some g) := ⟨hg3'.os, hg3'.tape, hg3'.output, hg3'.size, hg3'.block⟩; have HQ3 := Lib.hid (HRJ.out.set HGL.out HQ.out HG.out hg3 hz3); clear hz3 hg3 hg3' hs3))
    go_end0; unfold RStOut
    exact ⟨gx, gz, bs, vS, rfl, fun _ => HQ3.out, fun h => by rw [HOK.out] at h; cases h⟩
   | false =>
    cases hd2 : decide (wrap64 (p.f0 - m.f1) ≥ x.sz) with
    | true =>
     have HOK := Lib.hid (show okP m x.sz P = false by rw [HOKA.out, HA.out, HDR.out, List.any_cons, HODD.out, hd, hd2]; rfl); go_quiet (fail)
     go_wp2_with (first
      | (refine store_blk (t := 43) (p := .tmp 55) (v := .const (.int .i64 50)) (g := g) (off := 12) (cur := rcells x seq b i0 (.slice (some ad) L.length cL) n pg er vS) (cur' := rcells x seq b i0 (.slice (some ad) L.length cL) n pg 50 vS) (e := 60) (u := .int .i64 50) rfl rfl rfl rfl rfl HRJ.out.blk (by kernel_rfl) (Nat.le_of_ble_eq_true rfl) (by rfl) (by rfl) ?_; intro Z3 hz3 hg3' hs3; have hg3 : wr.grownBy Z3 (some g) := ⟨hg3'.os, hg3'.tape, hg3'.output, hg3'.size, hg3'.block⟩; have HQ3 := Lib.hid (HRJ.out.set HGL.out HQ.out HG.out hg3 hz3); clear hz3 hg3 hg3' hs3))
     go_end0; unfold RStOut
     exact ⟨gx, gz, bs, vS, rfl, fun _ => HQ3.out, fun h => by rw [HOK.out] at h; cases h⟩
    | false =>
     have HA2 := Lib.hid (show P.any (oddP m.f1 x.sz) = (P.drop (j + 1)).any (oddP m.f1 x.sz) by rw [HA.out, HDR.out, List.any_cons, HODD.out, hd, hd2]; rfl); go_quiet (fail)
     go_wp2; go_roundg (P.length - (j + 1))
     case measure => go_light; exact HJN.out _ HNJ.out
     case rel => exact ⟨j + 1, by (simp [hwj]; done), ⟨rfl⟩, ⟨hj⟩, ⟨HA2.out⟩, ⟨HRJ.out.below (below_drewN (Below.refl _ _) _)⟩⟩
  ·
   have hge : ¬ (j : Int) < (P.length : Int) := by omega
   have HOK := Lib.hid (show okP m x.sz P = true by rw [HOKA.out, HA.out, show j = P.length by have := HJ.out; omega, List.drop_length]; rfl); have HP4 := Lib.hid HRJ.out; clear HRJ HA HOKA; go_wp2_with fail
   go_loopg [7] P.length (fun gn v7 wr => ∃ (j : Nat) (v1 : Value), v7 = .int .i64 (j : Int) ∧ Aside0 (gn = P.length - j) ∧ Aside0 (j ≤ P.length) ∧ Aside0 (RS w0 w wr g gx gz x seq b n i0 (.slice (some ad) L.length cL) pg bs m er v1 ((P.take j).foldl (add1 x.rg m.f0) S) Q (T + j)))
   case atStart => exact ⟨0, vS, rfl, ⟨rfl⟩, ⟨Nat.zero_le _⟩, ⟨by rw [List.take_zero]; exact HP4.out⟩⟩
   case round =>
    clear HP4 x14; obtain ⟨j, v1, rfl, HNJ, HJ, HRJ⟩ := hrel; have x14 := BX.out _ HRJ.out.bx
    by_cases hj : j < P.length
    ·
     have hj0 : (j : Int) < (P.length : Int) := by omega
     have hzj : (0 : Int) ≤ (j : Int) := by omega
     have hwj : wrap64 ((j : Int) + 1) = ((j + 1 : Nat) : Int) := by have := HT.out; unfold wrap64; omega
     obtain ⟨ap, hA1, s0, s1, s2⟩ := at_T42 (Kd.C_below HC.out HRJ.out.bel) (j : Int) hzj hj0; cases hA1
     obtain ⟨p, hp⟩ : ∃ p, rd_T42 P (j : Int) = p := ⟨_, rfl⟩
     rw [hp, Int.toNat_natCast] at s0 s1 s2; have hst := add1_take (rg := x.rg) (n := m.f0) hj S; rw [show P[j] = p by rw [← hp, rdPt hj]] at hst
     obtain ⟨S1, hS1⟩ : ∃ S1, (P.take j).foldl (add1 x.rg m.f0) S = S1 := ⟨_, rfl⟩
     rw [hS1] at hst; have hRJ := HRJ.out; rw [hS1] at hRJ; obtain ⟨A8, c8, rfl⟩ := Kd.V_slice hRJ.V; have HIS := Lib.hid hRJ; have HST := Lib.hid hst; have q3 : wr.cell? ⟨g, 3, none⟩ = some (.int .i64 x.rg.f0) := (blk_cell hRJ.blk 3).trans rfl; have q4 : wr.cell? ⟨g, 4, none⟩ = some (.int .i64 x.rg.f1) := (blk_cell hRJ.blk 4).trans rfl; have q13 : wr.cell? ⟨g, 13, none⟩ = some (.slice A8 S1.length c8) := (blk_cell hRJ.blk 13).trans rfl; have z0 : wr.cell? ⟨gz, 0, none⟩ = some (.string m.f0) := (blk_cell hRJ.bz 0).trans rfl; have HJN := Lib.hid (show ∀ k, k = P.length - j → P.length - (j + 1) < k by intro k hk; omega); have HTJ := Lib.hid (show T + j ≤ 1000000 by have := HT.out; omega); clear hp hst hS1 hRJ HRJ; go_wp2_with fail
     by_cases h1 : x.rg.f0 ≤ p.f0
     ·
      by_cases h2 : p.f0 < x.rg.f1
      ·
       have d1 : decide (p.f0 ≥ x.rg.f0) = true := decide_eq_true h1; have d2 : decide (p.f0 < x.rg.f1) = true := decide_eq_true h2; have HST2 := Lib.hid (show (P.take (j + 1)).foldl (add1 x.rg m.f0) S = Ra.insS m.f0 p S1 by rw [HST.out]; unfold add1; rw [if_pos ⟨h1, h2⟩]); clear h1 h2; go_quiet (fail)
       obtain ⟨wd, hwd⟩ : ∃ wd, wd = wr.drewN nq := ⟨_, rfl⟩
       rw [← hwd]; have hbd : Below wr.heap.size wr wd := by rw [hwd]; exact below_drewN (Below.refl _ _) _
       have HIS := Lib.hid (HIS.out.below hbd); have q13 := pw_cell_below hbd q13; have z0 := pw_cell_below hbd z0; have x14 := pw_cell_below hbd x14; have s0 := pw_cell_below hbd s0; have s1 := pw_cell_below hbd s1; have s2 := pw_cell_below hbd s2; have HADD := Lib.hid (fun W (hW : Below wd.heap.size wd W) => addS_any W _ A8 c8 S1 m.f0 p (Kd.V_below HIS.out.V hW) (HIS.out.len.more HTJ.out)); clear hwd hbd q3 q4; go_wp2_with fail
       refine start_ (n := 16) (S := fun w' => w'.cell? ⟨g, 13, none⟩ = some (.slice A8 S1.length c8) ∧ w'.cell? ⟨gz, 0, none⟩ = some (.string m.f0) ∧ w'.cell? ⟨gx, 14, none⟩ = some (.slice (some ap) P.length c1) ∧ w'.cell? (ap.add (j * 3)) = some (.int .i64 p.f0) ∧ w'.cell? ⟨(ap.add (j * 3)).block, (ap.add (j * 3)).off + 1, none⟩ = some (.int .u64 p.f1) ∧ w'.cell? ⟨(ap.add (j * 3)).block, (ap.add (j * 3)).off + 2, none⟩ = some (.int .u64 p.f2)) (ds := [12, 15]) #[false, false, false, false, false, false, false, false, false, false, false, false, false, false, false, false] (by kernel_rfl) rfl rfl ⟨q13, z0, x14, s0, s1, s2⟩ (fun hHeld => ?_); refine with_tabW PRStr14.tab14 PRStr14.bits14 (fun HT_ HW_ => ?_); refine pure_ (i := 0) (N := some 89) (v := ?_) (a' := ?_) #[true, false, false, false, false, false, false, false, false, false, false, false, false, false, false, false] rfl rfl (any_of HT_.out (by kernel_rfl)) (fun _ _ _ h => h) (Or.inl ⟨by rfl, ?_⟩) ?_ ?_; rotate_left
       ·
        intro w'; go_simp; with_reducible rfl
       rotate_left
       ·
        simp only [Act.put, List.setIfInBounds_toArray, List.set_cons_zero, List.set_cons_succ, i64_w, i32_w]; rfl
       refine pure_ (i := 1) (N := some 90) (v := ?_) (a' := ?_) #[true, true, false, false, false, false, false, false, false, false, false, false, false, false, false, false] rfl rfl (any_of HT_.out (by kernel_rfl)) (fun _ _ _ h => h) (Or.inl ⟨by rfl, ?_⟩) ?_ ?_; rotate_left
       ·
        intro w'; go_simp; with_reducible rfl
       rotate_left
       ·
        simp only [Act.put, List.setIfInBounds_toArray, List.set_cons_zero, List.set_cons_succ, i64_w, i32_w]; rfl
       refine pure_ (i := 2) (N := some 91) (v := ?_) (a' := ?_) #[true, true, true, false, false, false, false, false, false, false, false, false, false, false, false, false] rfl rfl (any_of HT_.out (by kernel_rfl)) (fun _ _ _ h => h) (Or.inl ⟨by rfl, ?_⟩) ?_ ?_; rotate_left
       ·
        intro w'; go_simp; with_reducible rfl
       rotate_left
       ·
        simp only [Act.put, List.setIfInBounds_toArray, List.set_cons_zero, List.set_cons_succ, i64_w, i32_w]; rfl
       refine pure_ (i := 3) (N := some 92) (v := ?_) (a' := ?_) #[true, true, true, true, false, false, false, false, false, false, false, false, false, false, false, false] rfl rfl (any_of HT_.out (by kernel_rfl)) (fun _ _ _ h => h) (Or.inl ⟨by rfl, ?_⟩) ?_ ?_; rotate_left
       ·
        intro w'; go_simp; with_reducible rfl
       rotate_left
       ·
        simp only [Act.put, List.setIfInBounds_toArray, List.set_cons_zero, List.set_cons_succ, i64_w, i32_w]; rfl
       refine pure_ (i := 5) (N := some 94) (v := ?_) (a' := ?_) #[true, true, true, true, false, true, false, false, false, false, false, false, false, false, false, false] rfl rfl (any_of HT_.out (by kernel_rfl)) (fun _ _ _ h => h) (Or.inl ⟨by rfl, ?_⟩) ?_ ?_; rotate_left
       ·
        intro w'; go_simp; with_reducible rfl
       rotate_left
       ·
        simp only [Act.put, List.setIfInBounds_toArray, List.set_cons_zero, List.set_cons_succ, i64_w, i32_w]; rfl
       refine pure_ (i := 7) (N := some 96) (v := ?_) (a' := ?_) #[true, true, true, true, false, true, false, true, false, false, false, false, false, false, false, false] rfl rfl (any_of HT_.out (by kernel_rfl)) (fun _ _ _ h => h) (Or.inl ⟨by rfl, ?_⟩) ?_ ?_; rotate_left
       ·
        intro w'; go_simp; with_reducible rfl
       rotate_left
       ·
        simp only [Act.put, List.setIfInBounds_toArray, List.set_cons_zero, List.set_cons_succ, i64_w, i32_w]; rfl
       refine pure_ (i := 9) (N := some 98) (v := ?_) (a' := ?_) #[true, true, true, true, false, true, false, true, false, true, false, false, false, false, false, false] rfl rfl (any_of HT_.out (by kernel_rfl)) (fun _ _ _ h => h) (Or.inl ⟨by rfl, ?_⟩) ?_ ?_; rotate_left
       ·
        intro w'; go_simp; with_reducible rfl
       rotate_left
       ·
        simp only [Act.put, List.setIfInBounds_toArray, List.set_cons_zero, List.set_cons_succ, i64_w, i32_w]; rfl
       refine take_ (i := 4) (N := some 93) (v := ?_) (a' := ?_) #[true, true, true, true, true, true, false, true, false, true, false, false, false, false, false, false] rfl rfl (take_ofW HT_.out HW_.out (by kernel_rfl)) (fun _ _ _ h => h) (Or.inl ⟨by rfl, ?_⟩) hHeld ?_ ?_; rotate_left
       ·
        rintro w' ⟨s0, s1, s2, s3, s4, s5⟩; go_simp; with_reducible rfl
       rotate_left
       ·
        simp only [Act.put, List.setIfInBounds_toArray, List.set_cons_zero, List.set_cons_succ, i64_w, i32_w]; rfl
       refine take_ (i := 6) (N := some 95) (v := ?_) (a' := ?_) #[true, true, true, true, true, true, true, true, false, true, false, false, false, false, false, false] rfl rfl (take_ofW HT_.out HW_.out (by kernel_rfl)) (fun _ _ _ h => h) (Or.inl ⟨by rfl, ?_⟩) hHeld ?_ ?_; rotate_left
       ·
        rintro w' ⟨s0, s1, s2, s3, s4, s5⟩; go_simp; with_reducible rfl
       rotate_left
       ·
        simp only [Act.put, List.setIfInBounds_toArray, List.set_cons_zero, List.set_cons_succ, i64_w, i32_w]; rfl
       refine take_ (i := 8) (N := some 97) (v := ?_) (a' := ?_) #[true, true, true, true, true, true, true, true, true, true, false, false, false, false, false, false] rfl rfl (take_ofW HT_.out HW_.out (by kernel_rfl)) (fun _ _ _ h => h) (Or.inl ⟨by rfl, ?_⟩) hHeld ?_ ?_; rotate_left
       ·
        rintro w' ⟨s0, s1, s2, s3, s4, s5⟩; go_simp; with_reducible rfl
       rotate_left
       ·
        simp only [Act.put, List.setIfInBounds_toArray, List.set_cons_zero, List.set_cons_succ, i64_w, i32_w]; rfl
       refine pure_ (i := 10) (N := some 99) (v := ?_) (a' := ?_) #[true, true, true, true, true, true, true, true, true, true, true, false, false, false, false, false] rfl rfl (any_of HT_.out (by kernel_rfl)) (fun _ _ _ h => h) (Or.inl ⟨by rfl, ?_⟩) ?_ ?_; rotate_left
       ·
        intro w'; go_simp; with_reducible rfl
       rotate_left
       ·
        simp only [Act.put, List.setIfInBounds_toArray, List.set_cons_zero, List.set_cons_succ, i64_w, i32_w]; rfl
       refine take_ (i := 11) (N := some 100) (v := ?_) (a' := ?_) #[true, true, true, true, true, true, true, true, true, true, true, true, false, false, false, false] rfl rfl (take_ofW HT_.out HW_.out (by kernel_rfl)) (fun _ _ _ h => h) (Or.inl ⟨by rfl, ?_⟩) hHeld ?_ ?_; rotate_left
       ·
        rintro w' ⟨s0, s1, s2, s3, s4, s5⟩; go_simp; with_reducible rfl
       rotate_left
       ·
        simp only [Act.put, List.setIfInBounds_toArray, List.set_cons_zero, List.set_cons_succ, i64_w, i32_w]; rfl
       refine last_ (i := 12) (N := some 101) #[true, true, true, true, true, true, true, true, true, true, true, true, true, false, false, false] rfl rfl (one_of HT_.out (by kernel_rfl)) (by decide) (fun K hK => ?_); refine goes_ Try.func47 (by kernel_rfl) rfl #[.slice A8 S1.length c8, .string m.f0, .agg #[.int .i64 p.f0, .int .u64 p.f1, .int .u64 p.f2]] (by rfl) rfl rfl (by simp only [List.map_toArray, List.map_cons, List.map_nil]; rfl) ?_; with_reducible refine ((HADD.out _ (below_drew (Below.refl _ _)))).mono ?_
       rintro e w5 ⟨v5, rfl, hN5, hb5⟩; refine ⟨_, rfl, ?_⟩; have HB5 := Lib.hid (show Below wd.heap.size wd w5 from below_then (below_drew (Below.refl _ _)) (Nat.le_refl _) hb5); have HN5 := Lib.hid hN5; have e3 : w5.cell? ⟨g, 13, none⟩ = some (.slice A8 S1.length c8) := (blk_cell (blk_below HIS.out.blk HB5.out) 13).trans rfl; have e4 : w5.frozen? ⟨g, 13, none⟩ = false := blk_frozen (blk_below HIS.out.blk HB5.out) 13; obtain ⟨A9, c9, rfl⟩ := Kd.V_slice (base := 0) (Kd.N_V (base' := 0) hN5); clear hN5 hb5; refine hK.out _ _ ?_; clear hK K; refine norm_ (a' := ?_) ?_ ?_; rotate_left
       ·
        show Act.put _ (some 101) _ = _; simp only [Act.put, List.setIfInBounds_toArray, List.set_cons_zero, List.set_cons_succ, i64_w, i32_w]; rfl
       refine pure_ (i := 13) (N := some 102) (v := ?_) (a' := ?_) #[true, true, true, true, true, true, true, true, true, true, true, true, true, true, false, false] rfl rfl (any_of HT_.out (by kernel_rfl)) (fun _ _ _ h => h) (Or.inl ⟨by rfl, ?_⟩) ?_ ?_; rotate_left
       ·
        intro w'; go_simp; with_reducible rfl
       rotate_left
       ·
        simp only [Act.put, List.setIfInBounds_toArray, List.set_cons_zero, List.set_cons_succ, i64_w, i32_w]; rfl
       refine pure_ (i := 14) (N := some 103) (v := ?_) (a' := ?_) #[true, true, true, true, true, true, true, true, true, true, true, true, true, true, true, false] rfl rfl (any_of HT_.out (by kernel_rfl)) (fun _ _ _ h => h) (Or.inl ⟨by rfl, ?_⟩) ?_ ?_; rotate_left
       ·
        intro w'; go_simp; with_reducible rfl
       rotate_left
       ·
        simp only [Act.put, List.setIfInBounds_toArray, List.set_cons_zero, List.set_cons_succ, i64_w, i32_w]; rfl
       refine last_ (i := 15) (N := none) #[true, true, true, true, true, true, true, true, true, true, true, true, true, true, true, true] rfl rfl (one_of HT_.out (by kernel_rfl)) (by decide) (fun K hK => ?_); refine skip_ (w1 := ?_) (by rfl) rfl ?_ ?_; rotate_left
       ·
        go_simp; rfl
       refine hK.out _ _ ?_; clear hK K; refine done_ (done_of HT_.out (by kernel_rfl)) ?_; have HP9 := Lib.hid (HIS.out.put HGL.out HQ.out HG.out m.f0 p HB5.out HN5.out); clear q13 z0 s0 s1 s2 e3 e4; go_wp2; go_roundg (P.length - (j + 1))
       case measure => go_light; exact HJN.out _ HNJ.out
       case rel => exact ⟨j + 1, _, by (simp [hwj]; done), ⟨rfl⟩, ⟨hj⟩, ⟨by rw [HST2.out]; exact HP9.out⟩⟩
      ·
       have d1 : decide (p.f0 ≥ x.rg.f0) = true := decide_eq_true h1; have d2 : decide (p.f0 < x.rg.f1) = false := decide_eq_false h2; have HST2 := Lib.hid (show (P.take (j + 1)).foldl (add1 x.rg m.f0) S = S1 by rw [HST.out]; unfold add1; rw [if_neg (fun h => h2 h.2)]); clear h1 h2; go_quiet (fail)
       go_wp2; go_roundg (P.length - (j + 1))
       case measure => go_light; exact HJN.out _ HNJ.out
       case rel => exact ⟨j + 1, _, by (simp [hwj]; done), ⟨rfl⟩, ⟨hj⟩, ⟨by rw [HST2.out]; exact (HIS.out.below (below_drewN (Below.refl _ _) _)).more (Nat.le_succ _)⟩⟩
     ·
      have d1 : decide (p.f0 ≥ x.rg.f0) = false := decide_eq_false h1; have HST2 := Lib.hid (show (P.take (j + 1)).foldl (add1 x.rg m.f0) S = S1 by rw [HST.out]; unfold add1; rw [if_neg (fun h => h1 h.1)]); clear h1; go_quiet (fail)
      go_wp2; go_roundg (P.length - (j + 1))
      case measure => go_light; exact HJN.out _ HNJ.out
      case rel => exact ⟨j + 1, _, by (simp [hwj]; done), ⟨rfl⟩, ⟨hj⟩, ⟨by rw [HST2.out]; exact (HIS.out.below (below_drewN (Below.refl _ _) _)).more (Nat.le_succ _)⟩⟩
    ·
     have hge : ¬ (j : Int) < (P.length : Int) := by omega
     have hje : j = P.length := by have := HJ.out; omega
     have hR9 := HRJ.out; rw [hje, List.take_length] at hR9; have HR9 := Lib.hid hR9; clear hje hR9 HRJ; have y10 : wr.cell? ⟨g, 10, none⟩ = some (.int .i64 n) := (blk_cell HR9.out.blk 10).trans rfl
     go_wp2_with (first
      | (refine store_blk (t := 3) (p := .tmp 110) (v := .tmp 108) (g := g) (off := 10) (cur := rcells x seq b i0 (.slice (some ad) L.length cL) n pg er v1) (cur' := rcells x seq b i0 (.slice (some ad) L.length cL) (n + 1 : Nat) pg er v1) (e := 60) (u := .int .i64 ((n + 1 : Nat) : Int)) rfl rfl rfl rfl (by rw [← hwn]; rfl) HR9.out.blk (by kernel_rfl) (Nat.le_of_ble_eq_true rfl) (by rfl) (by rfl) ?_; intro Z3 hz3 hg3 hs3; have HQ3 := Lib.hid (HR9.out.set HGL.out HQ.out HG.out hg3 hz3); clear hz3 hg3 hs3))
     go_end0; unfold RStOut; exact ⟨gx, gz, bs, v1, rfl, (fun h => by rw [HOK.out] at h; cases h), fun _ => HQ3.out⟩
end Ps
end Go.Proofs.Ytgagcimfkmegnaa
