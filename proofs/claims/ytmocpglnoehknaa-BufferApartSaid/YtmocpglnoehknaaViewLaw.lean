/- BufferView: the walk. -/
import Derived.Test.YtmocpglnoehknaaBuf1
import Derived.Test.YtmocpglnoehknaaTwice
import Derived.Deep.Cut
namespace Go.Proofs.Ytmocpglnoehknaa
set_option linter.unusedVariables false
set_option linter.unusedSimpArgs false
open Go.RowKit Go.Proofs.YtmocpglnoehknaaW.PrintWords Go.Proofs.YtmocpglnoehknaaW.PrintLast Go.Proofs.YtmocpglnoehknaaW.PrintMore Go.Proofs.Ytmocpglnoehknaa.QT
namespace Buf
abbrev xb : ByteArray := ⟨#[120]⟩
abbrev yb : ByteArray := ⟨#[121]⟩
theorem yx : yb ≠ xb := by decide
theorem same_ev0 (l : List Pt) (hn : l.length ≤ 1099511627776) : ∀ (R P : List Pt), l = P ++ R → Ev (fun k => thermographlaw11_same.l0 k l l (P.length : Int)) true
  | [], P, hl => by
    simp only [List.append_nil] at hl
    have hln : l.length = P.length := by rw [hl]
    refine Ev.step (f := fun _ => some true) (fun k => ?_) (Ev.now _)
    rw [thermographlaw11_same.l0, if_neg (by omega)]
  | x :: R, P, hl => by
    have e : rd_T24 l (P.length : Int) = x := by rw [hl]; exact Vw.rd_mid' P R x _ rfl
    have hln : l.length = P.length + R.length + 1 := by rw [hl]; simp; omega
    have ih := same_ev0 l hn R (P ++ [x]) (by rw [hl]; simp)
    rw [List.length_append, List.length_singleton] at ih
    refine Ev.step (fun k => ?_) ih
    rw [thermographlaw11_same.l0, if_pos (by omega), if_pos (by omega), if_pos (by omega), e, if_neg (by simp), Vw.w1 _ (by omega)]
theorem same_ev (l : List Pt) (hn : l.length ≤ 1099511627776) : Ev (fun k => thermographlaw11_same.f k l l) true := by
  refine Ev.congr (fun k => ?_) (same_ev0 l hn l [] rfl)
  unfold thermographlaw11_same.f
  rw [if_pos rfl]
  rfl
theorem drawn_below {w w' : World} (h : Drawn0 w w') : Below w.heap.size w w' := h.below
/-- same at two rows of one list. -/
theorem same_any {X : World} {b1 b2 : Nat} {o1 o2 : Nat → Prop} {v1 v2 : Value} {l : List Pt} (h1 : Kd.R k24 24 X b1 o1 v1 l) (h2 : Kd.R k24 24 X b2 o2 v2 l) (hn : l.length ≤ 1099511627776) :
    Calls Try.prog 15 #[v1, v2] X fun e w' => e = .returned (.bool true) ∧ Below X.heap.size X w' := by
  obtain ⟨A1, c1, rfl⟩ := Kd.R_slice h1
  obtain ⟨A2, c2, rfl⟩ := Kd.R_slice h2
  obtain ⟨_, hc1, hC1⟩ := Kd.R_reads' h1
  obtain ⟨_, hc2, hC2⟩ := Kd.R_reads' h2
  obtain ⟨k, hk⟩ := (same_ev l hn).rounds
  exact (thermographlaw11_same.calls k A1 c1 l A2 c2 l true X hC1 hc1 hC2 hc2 hk).mono fun e w' ⟨he, hd⟩ => ⟨he, hd.below⟩
theorem rview_any {X : World} {A : Option Addr} {c : Nat} {l : List Pt} (hC : Kd.C k24 X A l.length l) (hc : l.length ≤ c) (hn : l.length ≤ 1099511627776) :
    Calls Try.prog 14 #[.slice A l.length c] X fun e w' => ∃ v : Value, e = .returned v ∧ Kd.R k24 24 w' X.heap.size (fun _ => True) v (Vw.view l) ∧ Below X.heap.size X w' := by
  obtain ⟨k, hk⟩ := (Vw.view_ref l hn).rounds
  exact thermographref06_View.calls k A c l _ X hC hc hk
theorem rcut_any {X : World} {base : Nat} {ok : Nat → Prop} {v : Value} {l : List Pt} (h : Kd.R k24 24 X base ok v l) (lo hi : Int) (hn : l.length ≤ 1099511627776) :
    Calls Try.prog 13 #[v, .agg #[.int .i64 lo, .int .i64 hi]] X fun e w' => ∃ v' : Value, e = .returned v' ∧ Kd.R k24 24 w' X.heap.size (fun _ => True) v' (Vw.cut l lo hi) ∧ Below X.heap.size X w' := by
  obtain ⟨A, c, rfl⟩ := Kd.R_slice h
  obtain ⟨_, hc, hC⟩ := Kd.R_reads' h
  obtain ⟨k, hk⟩ := (Vw.rcut_ev l lo hi hn).rounds
  exact thermographref06_Cut.calls k A c l lo hi _ X hC hc hk
/-- The block of a time. -/
def blkOf (t : Int) : Int := t.tmod 3
theorem okX (i : ByteArray) (hi : i.size ≤ 4096) (p : Pt) (h : (Lit.int .i64 p.f0).wf = true) : OkP ⟨blkOf p.f0, i, p.f0⟩ := by
  refine ⟨?_, ?_, h⟩
  · have h1 : -3 < blkOf p.f0 ∧ blkOf p.f0 < 3 := by
      unfold blkOf
      rw [Int.tmod_eq_emod]
      split <;> simp <;> omega
    simp only [Lit.wf, IntKind.min, IntKind.max, IntKind.signed, IntKind.bits]
    simp
    omega
  · show i.size ≤ maxLen
    unfold maxLen; omega
theorem write_at (X : World) (g b : Nat) (m : Mp) (ver : Int) (h : Is X g b m ver) (i : ByteArray) (hi : i.size ≤ 4096) (p : Pt) (hp : (Lit.int .i64 p.f0).wf = true) (h0 : 0 ≤ ver) (h1 : ver ≤ 10000) (hm : m.length ≤ 10000) :
    Calls Try.prog 9 #[.pointer (some ⟨g, 0, none⟩), .int .i64 (p.f0.tmod 3), .string i, .agg #[.int .i64 p.f0, .int .u64 p.f1, .int .u64 p.f2]] X fun e w' => (∃ n, e = .returned (.int .i64 n)) ∧ Is w' g b (wr m (blkOf p.f0) i p (ver + 1)) (ver + 1) ∧ Fr g b X w' :=
  (write_calls X g b m ver h (blkOf p.f0) i p (okX i hi p hp) h0 (by omega) (by unfold maxLen; omega)).mono fun e w' ⟨he, r⟩ => ⟨⟨_, he⟩, r⟩
/-- Behind some rounds of the first loop. -/
structure RA (w wr : World) (ga ba gb bb g5 : Nat) (lo hi : Int) (l : List Pt) (i : Int) (m : Mp) : Prop where
  i0 : 0 ≤ i
  i1 : i ≤ l.length
  isA : Is wr ga ba m i
  inv : Inv blkOf xb m (l.take i.toNat)
  only : ∀ e ∈ m, e.1.idn = xb
  len : m.length ≤ i.toNat
  isB : Is wr gb bb [] 0
  box : wr.heap[g5]? = some (.cells #[.int .i64 lo, .int .i64 hi] 32 (0, 0))
  bel : Below w.heap.size w wr
/-- Behind some rounds of the second loop. -/
structure RB (w wr : World) (ga ba gb bb g5 : Nat) (lo hi : Int) (l : List Pt) (ma : Mp) (i : Int) (m : Mp) (ver : Int) : Prop where
  i0 : -1 ≤ i
  i1 : i < l.length
  v0 : 0 ≤ ver
  v1 : ver ≤ 2 * (l.length - 1 - i)
  isB : Is wr gb bb m ver
  inv : Inv blkOf xb m (l.drop (i + 1).toNat)
  len : (m.length : Int) ≤ ver
  isA : Is wr ga ba ma l.length
  box : wr.heap[g5]? = some (.cells #[.int .i64 lo, .int .i64 hi] 32 (0, 0))
  bel : Below w.heap.size w wr
theorem rd_mem {l : List Pt} {i : Int} (h0 : 0 ≤ i) (h1 : i < l.length) : rd_T24 l i ∈ l ∧ l.take (i + 1).toNat = l.take i.toNat ++ [rd_T24 l i] ∧ l.drop i.toNat = rd_T24 l i :: l.drop (i + 1).toNat := by
  have h : i.toNat < l.length := by omega
  have e : rd_T24 l i = l[i.toNat] := by unfold rd_T24; rw [List.getD_eq_getElem?_getD, List.getElem?_eq_getElem h]; rfl
  have e2 : (i + 1).toNat = i.toNat + 1 := by omega
  rw [e, e2]
  exact ⟨List.getElem_mem h, List.take_succ_eq_append_getElem h, List.drop_eq_getElem_cons h⟩
def View_r.T8 : Bool × List (List Nat × List Nat) := (true, [([], []), ([], []), ([], []), ([1, 2], [1, 2]), ([3], [3]), ([4], [4]), ([5], [5]), ([], []), ([], []), ([7, 8], [7, 8]), ([9], [9]), ([0, 6, 10], [0, 6, 10])])
def View_r.B8 : List Nat := [0, 0, 0, 6, 14, 30, 62, 0, 0, 384, 896, 2047]
theorem View_r.tab8 : rtab .any (opsOf Try.f4 8) = View_r.T8 := by kernel_rfl
theorem View_r.bits8 : waitsOk View_r.T8.2 View_r.B8 = true := by kernel_rfl
def View_r.T12 : Bool × List (List Nat × List Nat) := (true, [([], []), ([], []), ([], []), ([1, 2], [1, 2]), ([3], [3]), ([4], [4]), ([5], [5]), ([], []), ([], []), ([7, 8], [7, 8]), ([9], [9]), ([0, 6, 10], [0, 6, 10])])
def View_r.B12 : List Nat := [0, 0, 0, 6, 14, 30, 62, 0, 0, 384, 896, 2047]
theorem View_r.tab12 : rtab .any (opsOf Try.f4 12) = View_r.T12 := by kernel_rfl
theorem View_r.bits12 : waitsOk View_r.T12.2 View_r.B12 = true := by kernel_rfl
def View_r.T14 : Bool × List (List Nat × List Nat) := (true, [([], []), ([], []), ([], []), ([1, 2], [1, 2]), ([3], [3]), ([4], [4]), ([5], [5]), ([], []), ([], []), ([7, 8], [7, 8]), ([9], [9]), ([0, 6, 10], [0, 6, 10])])
def View_r.B14 : List Nat := [0, 0, 0, 6, 14, 30, 62, 0, 0, 384, 896, 2047]
theorem View_r.tab14 : rtab .any (opsOf Try.f4 14) = View_r.T14 := by kernel_rfl
theorem View_r.bits14 : waitsOk View_r.T14.2 View_r.B14 = true := by kernel_rfl
def View_r.T15 : Bool × List (List Nat × List Nat) := (true, [([], []), ([0], [0]), ([], []), ([1, 2, 1], [1, 2]), ([3, 3, 0, 1, 2, 3], [3])])
def View_r.B15 : List Nat := [0, 1, 0, 7, 15]
theorem View_r.tab15 : rtab .any (opsOf Try.f4 15) = View_r.T15 := by kernel_rfl
theorem View_r.bits15 : waitsOk View_r.T15.2 View_r.B15 = true := by kernel_rfl
set_option maxHeartbeats 2000000 in
set_option maxRecDepth 100000 in
theorem view_calls (w : World) (A0 : Option Addr) (c0 : Nat) (l : List Pt) (hC : Kd.C k24 w A0 l.length l) (hc : l.length ≤ c0) (hlen : l.length ≤ 256) (hwf : ∀ p ∈ l, (Lit.int .i64 p.f0).wf = true) (A1 : Option Addr) (n1 c1 : Nat) (lo hi : Int) :
    Calls Try.prog 4 #[.slice A0 l.length c0, .slice A1 n1 c1, .agg #[.int .i64 lo, .int .i64 hi]] w fun e w' => e = .returned (.bool true) ∧ Below w.heap.size w w' := by
  have HC := Lib.hid hC
  have HLN := Lib.hid hlen
  have HWF := Lib.hid hwf
  have hsz : ¬ ((l.length : Int) > 256) := by omega
  clear hC hlen hwf
  go_enter Try.func4, Try.ntmps4
  go_wp2_with (first
    | ((with_reducible refine gate_dst (N := 5) rfl ?_); refine box_event rfl (N := 5) rfl (cs := #[.int .i64 lo, .int .i64 hi]) (t := 32) ?hr ?_; (case hr => first | (go_simp; done) | (go_simp; rfl)); intro g5 hg5 w5 hbox hb5; have HB5 := Lib.hid (And.intro hg5 (And.intro hbox hb5)); clear hg5 hbox hb5)
    | fail)
  with_reducible refine (new_any _).mono ?_
  rintro e w6 ⟨ga, ba, rfl, hga, hba, hIa, hB6⟩
  have H6 := Lib.hid (And.intro hga (And.intro hba (And.intro hIa hB6)))
  clear hga hba hIa hB6
  go_wp2_with fail
  with_reducible refine (new_any _).mono ?_
  rintro e w7 ⟨gb, bb, rfl, hgb, hbb, hIb, hB7⟩
  obtain ⟨hga, hba, hIa, hB6⟩ := H6.out
  obtain ⟨hg5, hbox, hb5⟩ := HB5.out
  have hl5 := blk_lt hbox
  have hs5 := hb5.size
  have hs6 := hB6.size
  have hla := hIa.lt
  have hla2 := hIa.ne
  have hlb2 := hIb.ne
  have HN := Lib.hid (show (w.heap.size ≤ g5 ∧ w.heap.size ≤ ga ∧ w.heap.size ≤ ba ∧ w.heap.size ≤ gb ∧ w.heap.size ≤ bb) ∧ (g5 ≠ ga ∧ g5 ≠ ba ∧ g5 ≠ gb ∧ g5 ≠ bb) ∧ (ga ≠ gb ∧ ga ≠ bb ∧ ba ≠ gb ∧ ba ≠ bb) by omega)
  have HX7 := Lib.hid (blk_below (blk_below hbox hB6) hB7)
  have HA7 := Lib.hid (hIa.below hB7)
  have HB7 := Lib.hid (below_then (below_then hb5 hb5.size hB6) (by omega) hB7)
  have HI7 := Lib.hid hIb
  clear hga hba hIa hB6 hg5 hbox hb5 hl5 hs5 hs6 hla hla2 hlb2 hgb hbb hIb hB7 H6 HB5
  go_wp2_with fail
  have hln := HLN.out
  go_loopg [9] l.length (fun gn v9 wr => ∃ (i : Int) (m : Mp), v9 = .int .i64 i ∧ Aside0 ((gn : Int) = l.length - i) ∧ Aside0 (RA w wr ga ba gb bb g5 lo hi l i m))
  case atStart => exact ⟨0, [], rfl, ⟨by omega⟩, ⟨⟨by omega, by omega, HA7.out, Inv.nil _ _, by simp, by simp, HI7.out, HX7.out, HB7.out⟩⟩⟩
  case round =>
    clear HX7 HA7 HB7 HI7
    obtain ⟨i, m, rfl, HG, HR⟩ := hrel
    have hi0 := HR.out.i0
    by_cases hlt : i < l.length
    · obtain ⟨ad, ead, q0, q1, q2⟩ := at_T24 (Kd.C_below HC.out HR.out.bel) i hi0 hlt
      cases ead
      have HM := Lib.hid (rd_mem hi0 hlt)
      have HWR := Lib.hid (write_at wr.drew ga ba m i HR.out.isA xb (by decide) (rd_T24 l i) (HWF.out _ HM.out.1) hi0 (by omega) (by have := HR.out.len; omega))
      have hi1 : i ≤ 256 := by omega
      go_wp2_with fail
      refine start_ (n := 12) (S := fun w' => w'.cell? (ad.add (i.toNat * 3)) = some (.int .i64 (rd_T24 l i).f0) ∧ w'.cell? ⟨(ad.add (i.toNat * 3)).block, (ad.add (i.toNat * 3)).off + 1, none⟩ = some (.int .u64 (rd_T24 l i).f1) ∧ w'.cell? ⟨(ad.add (i.toNat * 3)).block, (ad.add (i.toNat * 3)).off + 2, none⟩ = some (.int .u64 (rd_T24 l i).f2)) (ds := [11]) #[false, false, false, false, false, false, false, false, false, false, false, false] (by kernel_rfl) rfl rfl ⟨q0, q1, q2⟩ (fun hHeld => ?_)
      refine with_tabW View_r.tab8 View_r.bits8 (fun HT_ HW_ => ?_)
      refine pure_ (i := 0) (N := some 23) (v := ?_) (a' := ?_) #[true, false, false, false, false, false, false, false, false, false, false, false] rfl rfl (any_of HT_.out (by kernel_rfl)) (fun _ _ _ h => h) (Or.inl ⟨by rfl, ?_⟩) ?_ ?_
      rotate_left
      · intro w'
        go_simp
        with_reducible rfl
      rotate_left
      · simp only [Act.put, List.setIfInBounds_toArray, List.set_cons_zero, List.set_cons_succ, i64_w, i32_w]
        rfl
      refine pure_ (i := 1) (N := some 24) (v := ?_) (a' := ?_) #[true, true, false, false, false, false, false, false, false, false, false, false] rfl rfl (any_of HT_.out (by kernel_rfl)) (fun _ _ _ h => h) (Or.inl ⟨by rfl, ?_⟩) ?_ ?_
      rotate_left
      · intro w'
        go_simp
        with_reducible rfl
      rotate_left
      · simp only [Act.put, List.setIfInBounds_toArray, List.set_cons_zero, List.set_cons_succ, i64_w, i32_w]
        rfl
      refine pure_ (i := 2) (N := some 25) (v := ?_) (a' := ?_) #[true, true, true, false, false, false, false, false, false, false, false, false] rfl rfl (any_of HT_.out (by kernel_rfl)) (fun _ _ _ h => h) (Or.inl ⟨by rfl, ?_⟩) ?_ ?_
      rotate_left
      · intro w'
        go_simp
        with_reducible rfl
      rotate_left
      · simp only [Act.put, List.setIfInBounds_toArray, List.set_cons_zero, List.set_cons_succ, i64_w, i32_w]
        rfl
      refine pure_ (i := 3) (N := some 26) (v := ?_) (a' := ?_) #[true, true, true, true, false, false, false, false, false, false, false, false] rfl rfl (any_of HT_.out (by kernel_rfl)) (fun _ _ _ h => h) (Or.inl ⟨by rfl, ?_⟩) ?_ ?_
      rotate_left
      · intro w'
        go_simp
        with_reducible rfl
      rotate_left
      · simp only [Act.put, List.setIfInBounds_toArray, List.set_cons_zero, List.set_cons_succ, i64_w, i32_w]
        rfl
      refine pure_ (i := 4) (N := some 27) (v := ?_) (a' := ?_) #[true, true, true, true, true, false, false, false, false, false, false, false] rfl rfl (any_of HT_.out (by kernel_rfl)) (fun _ _ _ h => h) (Or.inl ⟨by rfl, ?_⟩) ?_ ?_
      rotate_left
      · intro w'
        go_simp
        with_reducible rfl
      rotate_left
      · simp only [Act.put, List.setIfInBounds_toArray, List.set_cons_zero, List.set_cons_succ, i64_w, i32_w]
        rfl
      refine pure_ (i := 7) (N := some 30) (v := ?_) (a' := ?_) #[true, true, true, true, true, false, false, true, false, false, false, false] rfl rfl (any_of HT_.out (by kernel_rfl)) (fun _ _ _ h => h) (Or.inl ⟨by rfl, ?_⟩) ?_ ?_
      rotate_left
      · intro w'
        go_simp
        with_reducible rfl
      rotate_left
      · simp only [Act.put, List.setIfInBounds_toArray, List.set_cons_zero, List.set_cons_succ, i64_w, i32_w]
        rfl
      refine pure_ (i := 8) (N := some 31) (v := ?_) (a' := ?_) #[true, true, true, true, true, false, false, true, true, false, false, false] rfl rfl (any_of HT_.out (by kernel_rfl)) (fun _ _ _ h => h) (Or.inl ⟨by rfl, ?_⟩) ?_ ?_
      rotate_left
      · intro w'
        go_simp
        with_reducible rfl
      rotate_left
      · simp only [Act.put, List.setIfInBounds_toArray, List.set_cons_zero, List.set_cons_succ, i64_w, i32_w]
        rfl
      refine pure_ (i := 9) (N := some 32) (v := ?_) (a' := ?_) #[true, true, true, true, true, false, false, true, true, true, false, false] rfl rfl (any_of HT_.out (by kernel_rfl)) (fun _ _ _ h => h) (Or.inl ⟨by rfl, ?_⟩) ?_ ?_
      rotate_left
      · intro w'
        go_simp
        with_reducible rfl
      rotate_left
      · simp only [Act.put, List.setIfInBounds_toArray, List.set_cons_zero, List.set_cons_succ, i64_w, i32_w]
        rfl
      refine take_ (i := 5) (N := some 28) (v := ?_) (a' := ?_) #[true, true, true, true, true, true, false, true, true, true, false, false] rfl rfl (take_ofW HT_.out HW_.out (by kernel_rfl)) (fun _ _ _ h => h) (Or.inl ⟨by rfl, ?_⟩) hHeld ?_ ?_
      rotate_left
      · rintro w' ⟨s0, s1, s2⟩
        go_simp
        with_reducible rfl
      rotate_left
      · simp only [Act.put, List.setIfInBounds_toArray, List.set_cons_zero, List.set_cons_succ, i64_w, i32_w]
        rfl
      refine pure_ (i := 6) (N := some 29) (v := ?_) (a' := ?_) #[true, true, true, true, true, true, true, true, true, true, false, false] rfl rfl (any_of HT_.out (by kernel_rfl)) (fun _ _ _ h => h) (Or.inl ⟨by rfl, ?_⟩) ?_ ?_
      rotate_left
      · intro w'
        go_simp
        with_reducible rfl
      rotate_left
      · simp only [Act.put, List.setIfInBounds_toArray, List.set_cons_zero, List.set_cons_succ, i64_w, i32_w]
        rfl
      refine take_ (i := 10) (N := some 33) (v := ?_) (a' := ?_) #[true, true, true, true, true, true, true, true, true, true, true, false] rfl rfl (take_ofW HT_.out HW_.out (by kernel_rfl)) (fun _ _ _ h => h) (Or.inl ⟨by rfl, ?_⟩) hHeld ?_ ?_
      rotate_left
      · rintro w' ⟨s0, s1, s2⟩
        go_simp
        with_reducible rfl
      rotate_left
      · simp only [Act.put, List.setIfInBounds_toArray, List.set_cons_zero, List.set_cons_succ, i64_w, i32_w]
        rfl
      refine last_ (i := 11) (N := some 34) #[true, true, true, true, true, true, true, true, true, true, true, true] rfl rfl (one_of HT_.out (by kernel_rfl)) (by decide) (fun K hK => ?_)
      refine goes_ Try.func9 (by kernel_rfl) rfl #[.pointer (some ⟨ga, 0, none⟩), .int .i64 ((rd_T24 l i).f0.tmod 3), .string ⟨#[120]⟩, .agg #[.int .i64 (rd_T24 l i).f0, .int .u64 (rd_T24 l i).f1, .int .u64 (rd_T24 l i).f2]] (by rfl) rfl rfl (by simp only [List.map_toArray, List.map_cons, List.map_nil]; rfl) ?_
      with_reducible refine (HWR.out).mono ?_
      rintro e w9 ⟨⟨n9, rfl⟩, hI9, hF9⟩
      refine ⟨_, rfl, ?_⟩
      have HI9 := Lib.hid hI9
      have HF9 := Lib.hid hF9
      clear hI9 hF9
      refine hK.out _ _ ?_
      clear hK K
      refine norm_ (a' := ?_) ?_ ?_
      rotate_left
      · show Act.put _ (some 34) _ = _
        simp only [Act.put, List.setIfInBounds_toArray, List.set_cons_zero, List.set_cons_succ, i64_w, i32_w]
        rfl
      refine done_ (done_of HT_.out (by kernel_rfl)) ?_
      go_wp2_with fail
      have hn := HN.out
      have hr := HR.out
      have hg := HG.out
      go_roundg (gk - 1)
      case measure => omega
      case rel =>
        refine ⟨i + 1, Buf.wr m (blkOf (rd_T24 l i).f0) xb (rd_T24 l i) (i + 1), rfl, ⟨by omega⟩, ⟨⟨by omega, by omega, HI9.out, ?_, wr_only hr.only _ _ _, ?_, ?_, ?_, ?_⟩⟩⟩
        · rw [HM.out.2.1]
          exact (hr.inv.write hr.isA.2.nodup _ _).perm (List.perm_append_singleton _ _)
        · have := wr_len m (blkOf (rd_T24 l i).f0) xb (rd_T24 l i) (i + 1)
          have := hr.len
          omega
        · exact Is.other (w := wr.drew) hr.isB HF9.out hn.2.2.1.symm hn.2.2.2.2.1.symm hn.2.2.2.1.symm hn.2.2.2.2.2.symm
        · exact Fr.blk (w := wr.drew) HF9.out hr.box hn.2.1.1 hn.2.1.2.1
        · exact Fr.below (below_drew hr.bel) HF9.out hr.bel.size hn.1.2.1 hn.1.2.2.1
    · have hi1 := HR.out.i1
      have he : i = l.length := by omega
      subst he
      have hra := HR.out
      have HA := Lib.hid (show Inv blkOf xb m l from by have := hra.inv; rwa [Int.toNat_natCast, List.take_length] at this)
      have HAl := Lib.hid (show (Vw.view l).length = m.length from HA.out.len hra.isA.2.nodup hra.only)
      have HS := Aside0.mk (show RB w wr ga ba gb bb g5 lo hi l m (l.length - 1) [] 0 from ⟨by omega, by omega, by omega, by omega, hra.isB, by rw [show ((l.length : Int) - 1 + 1).toNat = l.length from by omega, List.drop_length]; exact Inv.nil _ _, by simp, hra.isA, hra.box, hra.bel⟩)
      clear hra HR HG hi0 hlt
      go_wp2_with fail
      obtain ⟨wo, hwo⟩ : ∃ wo : World, wo = wr := ⟨_, rfl⟩
      rw [← hwo] at HS ⊢
      clear hwo
      go_loopg [10] (l.length + 1) (fun gn v10 wr => ∃ (i : Int) (m2 : Mp) (ver : Int), v10 = .int .i64 i ∧ Aside0 ((gn : Int) = i + 2) ∧ Aside0 (RB w wr ga ba gb bb g5 lo hi l m i m2 ver))
      case atStart => exact ⟨(l.length : Int) - 1, [], 0, rfl, ⟨by omega⟩, HS⟩
      case round =>
        clear HS
        obtain ⟨i, m2, ver, rfl, HG, HRB⟩ := hrel
        have hi0 := HRB.out.i0
        have hi1 := HRB.out.i1
        by_cases hge : 0 ≤ i
        · obtain ⟨ad, ead, q0, q1, q2⟩ := at_T24 (Kd.C_below HC.out HRB.out.bel) i hge hi1
          cases ead
          have HM := Lib.hid (rd_mem hge hi1)
          have HWR := Lib.hid (write_at wr.drew gb bb m2 ver HRB.out.isB xb (by decide) (rd_T24 l i) (HWF.out _ HM.out.1) HRB.out.v0 (by have := HRB.out.v1; omega) (by have := HRB.out.len; have := HRB.out.v1; omega))
          have hi2 : i ≤ 256 := by omega
          by_cases hpk : i < n1
          · go_wp2_with fail
            refine start_ (n := 12) (S := fun w' => w'.cell? (ad.add (i.toNat * 3)) = some (.int .i64 (rd_T24 l i).f0) ∧ w'.cell? ⟨(ad.add (i.toNat * 3)).block, (ad.add (i.toNat * 3)).off + 1, none⟩ = some (.int .u64 (rd_T24 l i).f1) ∧ w'.cell? ⟨(ad.add (i.toNat * 3)).block, (ad.add (i.toNat * 3)).off + 2, none⟩ = some (.int .u64 (rd_T24 l i).f2)) (ds := [11]) #[false, false, false, false, false, false, false, false, false, false, false, false] (by kernel_rfl) rfl rfl ⟨q0, q1, q2⟩ (fun hHeld => ?_)
            refine with_tabW View_r.tab12 View_r.bits12 (fun HT_ HW_ => ?_)
            refine pure_ (i := 0) (N := some 42) (v := ?_) (a' := ?_) #[true, false, false, false, false, false, false, false, false, false, false, false] rfl rfl (any_of HT_.out (by kernel_rfl)) (fun _ _ _ h => h) (Or.inl ⟨by rfl, ?_⟩) ?_ ?_
            rotate_left
            · intro w'
              go_simp
              with_reducible rfl
            rotate_left
            · simp only [Act.put, List.setIfInBounds_toArray, List.set_cons_zero, List.set_cons_succ, i64_w, i32_w]
              rfl
            refine pure_ (i := 1) (N := some 43) (v := ?_) (a' := ?_) #[true, true, false, false, false, false, false, false, false, false, false, false] rfl rfl (any_of HT_.out (by kernel_rfl)) (fun _ _ _ h => h) (Or.inl ⟨by rfl, ?_⟩) ?_ ?_
            rotate_left
            · intro w'
              go_simp
              with_reducible rfl
            rotate_left
            · simp only [Act.put, List.setIfInBounds_toArray, List.set_cons_zero, List.set_cons_succ, i64_w, i32_w]
              rfl
            refine pure_ (i := 2) (N := some 44) (v := ?_) (a' := ?_) #[true, true, true, false, false, false, false, false, false, false, false, false] rfl rfl (any_of HT_.out (by kernel_rfl)) (fun _ _ _ h => h) (Or.inl ⟨by rfl, ?_⟩) ?_ ?_
            rotate_left
            · intro w'
              go_simp
              with_reducible rfl
            rotate_left
            · simp only [Act.put, List.setIfInBounds_toArray, List.set_cons_zero, List.set_cons_succ, i64_w, i32_w]
              rfl
            refine pure_ (i := 3) (N := some 45) (v := ?_) (a' := ?_) #[true, true, true, true, false, false, false, false, false, false, false, false] rfl rfl (any_of HT_.out (by kernel_rfl)) (fun _ _ _ h => h) (Or.inl ⟨by rfl, ?_⟩) ?_ ?_
            rotate_left
            · intro w'
              go_simp
              with_reducible rfl
            rotate_left
            · simp only [Act.put, List.setIfInBounds_toArray, List.set_cons_zero, List.set_cons_succ, i64_w, i32_w]
              rfl
            refine pure_ (i := 4) (N := some 46) (v := ?_) (a' := ?_) #[true, true, true, true, true, false, false, false, false, false, false, false] rfl rfl (any_of HT_.out (by kernel_rfl)) (fun _ _ _ h => h) (Or.inl ⟨by rfl, ?_⟩) ?_ ?_
            rotate_left
            · intro w'
              go_simp
              with_reducible rfl
            rotate_left
            · simp only [Act.put, List.setIfInBounds_toArray, List.set_cons_zero, List.set_cons_succ, i64_w, i32_w]
              rfl
            refine pure_ (i := 7) (N := some 49) (v := ?_) (a' := ?_) #[true, true, true, true, true, false, false, true, false, false, false, false] rfl rfl (any_of HT_.out (by kernel_rfl)) (fun _ _ _ h => h) (Or.inl ⟨by rfl, ?_⟩) ?_ ?_
            rotate_left
            · intro w'
              go_simp
              with_reducible rfl
            rotate_left
            · simp only [Act.put, List.setIfInBounds_toArray, List.set_cons_zero, List.set_cons_succ, i64_w, i32_w]
              rfl
            refine pure_ (i := 8) (N := some 50) (v := ?_) (a' := ?_) #[true, true, true, true, true, false, false, true, true, false, false, false] rfl rfl (any_of HT_.out (by kernel_rfl)) (fun _ _ _ h => h) (Or.inl ⟨by rfl, ?_⟩) ?_ ?_
            rotate_left
            · intro w'
              go_simp
              with_reducible rfl
            rotate_left
            · simp only [Act.put, List.setIfInBounds_toArray, List.set_cons_zero, List.set_cons_succ, i64_w, i32_w]
              rfl
            refine pure_ (i := 9) (N := some 51) (v := ?_) (a' := ?_) #[true, true, true, true, true, false, false, true, true, true, false, false] rfl rfl (any_of HT_.out (by kernel_rfl)) (fun _ _ _ h => h) (Or.inl ⟨by rfl, ?_⟩) ?_ ?_
            rotate_left
            · intro w'
              go_simp
              with_reducible rfl
            rotate_left
            · simp only [Act.put, List.setIfInBounds_toArray, List.set_cons_zero, List.set_cons_succ, i64_w, i32_w]
              rfl
            refine take_ (i := 5) (N := some 47) (v := ?_) (a' := ?_) #[true, true, true, true, true, true, false, true, true, true, false, false] rfl rfl (take_ofW HT_.out HW_.out (by kernel_rfl)) (fun _ _ _ h => h) (Or.inl ⟨by rfl, ?_⟩) hHeld ?_ ?_
            rotate_left
            · rintro w' ⟨s0, s1, s2⟩
              go_simp
              with_reducible rfl
            rotate_left
            · simp only [Act.put, List.setIfInBounds_toArray, List.set_cons_zero, List.set_cons_succ, i64_w, i32_w]
              rfl
            refine pure_ (i := 6) (N := some 48) (v := ?_) (a' := ?_) #[true, true, true, true, true, true, true, true, true, true, false, false] rfl rfl (any_of HT_.out (by kernel_rfl)) (fun _ _ _ h => h) (Or.inl ⟨by rfl, ?_⟩) ?_ ?_
            rotate_left
            · intro w'
              go_simp
              with_reducible rfl
            rotate_left
            · simp only [Act.put, List.setIfInBounds_toArray, List.set_cons_zero, List.set_cons_succ, i64_w, i32_w]
              rfl
            refine take_ (i := 10) (N := some 52) (v := ?_) (a' := ?_) #[true, true, true, true, true, true, true, true, true, true, true, false] rfl rfl (take_ofW HT_.out HW_.out (by kernel_rfl)) (fun _ _ _ h => h) (Or.inl ⟨by rfl, ?_⟩) hHeld ?_ ?_
            rotate_left
            · rintro w' ⟨s0, s1, s2⟩
              go_simp
              with_reducible rfl
            rotate_left
            · simp only [Act.put, List.setIfInBounds_toArray, List.set_cons_zero, List.set_cons_succ, i64_w, i32_w]
              rfl
            refine last_ (i := 11) (N := some 53) #[true, true, true, true, true, true, true, true, true, true, true, true] rfl rfl (one_of HT_.out (by kernel_rfl)) (by decide) (fun K hK => ?_)
            refine goes_ Try.func9 (by kernel_rfl) rfl #[.pointer (some ⟨gb, 0, none⟩), .int .i64 ((rd_T24 l i).f0.tmod 3), .string ⟨#[120]⟩, .agg #[.int .i64 (rd_T24 l i).f0, .int .u64 (rd_T24 l i).f1, .int .u64 (rd_T24 l i).f2]] (by rfl) rfl rfl (by simp only [List.map_toArray, List.map_cons, List.map_nil]; rfl) ?_
            with_reducible refine (HWR.out).mono ?_
            rintro e w9 ⟨⟨n9, rfl⟩, hI9, hF9⟩
            refine ⟨_, rfl, ?_⟩
            have HI9 := Lib.hid hI9
            have HF9 := Lib.hid hF9
            clear hI9 hF9
            refine hK.out _ _ ?_
            clear hK K
            refine norm_ (a' := ?_) ?_ ?_
            rotate_left
            · show Act.put _ (some 53) _ = _
              simp only [Act.put, List.setIfInBounds_toArray, List.set_cons_zero, List.set_cons_succ, i64_w, i32_w]
              rfl
            refine done_ (done_of HT_.out (by kernel_rfl)) ?_
            have hr := HRB.out
            have hn := HN.out
            have HB9 := Lib.hid (Fr.below (below_drew hr.bel) HF9.out hr.bel.size hn.1.2.2.2.1 hn.1.2.2.2.2)
            have HA9 := Lib.hid (Is.other (w := wr.drew) hr.isA HF9.out hn.2.2.1 hn.2.2.2.1 hn.2.2.2.2.1 hn.2.2.2.2.2)
            have HX9 := Lib.hid (Fr.blk (w := wr.drew) HF9.out hr.box hn.2.1.2.2.1 hn.2.1.2.2.2)
            have hl9 := wr_len m2 (blkOf (rd_T24 l i).f0) xb (rd_T24 l i) (ver + 1)
            have HV9 := Lib.hid (show Inv blkOf xb (Buf.wr m2 (blkOf (rd_T24 l i).f0) xb (rd_T24 l i) (ver + 1)) (l.drop (i - 1 + 1).toNat) from by
              rw [show i - 1 + 1 = i from by omega, HM.out.2.2]
              exact hr.inv.write hr.isB.2.nodup _ _)
            have h1 := hr.len
            have h2 := hr.v0
            have h3 := hr.v1
            have hg := HG.out
            obtain ⟨ad2, ead2, s0, s1, s2⟩ := at_T24 (Kd.C_below HC.out HB9.out) i hge hi1
            cases ead2
            clear q0 q1 q2
            have q0 := s0
            have q1 := s1
            have q2 := s2
            clear s0 s1 s2
            have HWR2 := Lib.hid (write_at w9.drew gb bb _ (ver + 1) HI9.out yb (by decide) (rd_T24 l i) (HWF.out _ HM.out.1) (by omega) (by omega) (by omega))
            have H123 := Lib.hid (And.intro h1 (And.intro h2 (And.intro h3 (And.intro hg hl9))))
            clear h1 h2 h3 hg hl9 hr hn
            go_wp2_with fail
            refine start_ (n := 12) (S := fun w' => w'.cell? (ad.add (i.toNat * 3)) = some (.int .i64 (rd_T24 l i).f0) ∧ w'.cell? ⟨(ad.add (i.toNat * 3)).block, (ad.add (i.toNat * 3)).off + 1, none⟩ = some (.int .u64 (rd_T24 l i).f1) ∧ w'.cell? ⟨(ad.add (i.toNat * 3)).block, (ad.add (i.toNat * 3)).off + 2, none⟩ = some (.int .u64 (rd_T24 l i).f2)) (ds := [11]) #[false, false, false, false, false, false, false, false, false, false, false, false] (by kernel_rfl) rfl rfl ⟨q0, q1, q2⟩ (fun hHeld => ?_)
            refine with_tabW View_r.tab14 View_r.bits14 (fun HT_ HW_ => ?_)
            refine pure_ (i := 0) (N := some 58) (v := ?_) (a' := ?_) #[true, false, false, false, false, false, false, false, false, false, false, false] rfl rfl (any_of HT_.out (by kernel_rfl)) (fun _ _ _ h => h) (Or.inl ⟨by rfl, ?_⟩) ?_ ?_
            rotate_left
            · intro w'
              go_simp
              with_reducible rfl
            rotate_left
            · simp only [Act.put, List.setIfInBounds_toArray, List.set_cons_zero, List.set_cons_succ, i64_w, i32_w]
              rfl
            refine pure_ (i := 1) (N := some 59) (v := ?_) (a' := ?_) #[true, true, false, false, false, false, false, false, false, false, false, false] rfl rfl (any_of HT_.out (by kernel_rfl)) (fun _ _ _ h => h) (Or.inl ⟨by rfl, ?_⟩) ?_ ?_
            rotate_left
            · intro w'
              go_simp
              with_reducible rfl
            rotate_left
            · simp only [Act.put, List.setIfInBounds_toArray, List.set_cons_zero, List.set_cons_succ, i64_w, i32_w]
              rfl
            refine pure_ (i := 2) (N := some 60) (v := ?_) (a' := ?_) #[true, true, true, false, false, false, false, false, false, false, false, false] rfl rfl (any_of HT_.out (by kernel_rfl)) (fun _ _ _ h => h) (Or.inl ⟨by rfl, ?_⟩) ?_ ?_
            rotate_left
            · intro w'
              go_simp
              with_reducible rfl
            rotate_left
            · simp only [Act.put, List.setIfInBounds_toArray, List.set_cons_zero, List.set_cons_succ, i64_w, i32_w]
              rfl
            refine pure_ (i := 3) (N := some 61) (v := ?_) (a' := ?_) #[true, true, true, true, false, false, false, false, false, false, false, false] rfl rfl (any_of HT_.out (by kernel_rfl)) (fun _ _ _ h => h) (Or.inl ⟨by rfl, ?_⟩) ?_ ?_
            rotate_left
            · intro w'
              go_simp
              with_reducible rfl
            rotate_left
            · simp only [Act.put, List.setIfInBounds_toArray, List.set_cons_zero, List.set_cons_succ, i64_w, i32_w]
              rfl
            refine pure_ (i := 4) (N := some 62) (v := ?_) (a' := ?_) #[true, true, true, true, true, false, false, false, false, false, false, false] rfl rfl (any_of HT_.out (by kernel_rfl)) (fun _ _ _ h => h) (Or.inl ⟨by rfl, ?_⟩) ?_ ?_
            rotate_left
            · intro w'
              go_simp
              with_reducible rfl
            rotate_left
            · simp only [Act.put, List.setIfInBounds_toArray, List.set_cons_zero, List.set_cons_succ, i64_w, i32_w]
              rfl
            refine pure_ (i := 7) (N := some 65) (v := ?_) (a' := ?_) #[true, true, true, true, true, false, false, true, false, false, false, false] rfl rfl (any_of HT_.out (by kernel_rfl)) (fun _ _ _ h => h) (Or.inl ⟨by rfl, ?_⟩) ?_ ?_
            rotate_left
            · intro w'
              go_simp
              with_reducible rfl
            rotate_left
            · simp only [Act.put, List.setIfInBounds_toArray, List.set_cons_zero, List.set_cons_succ, i64_w, i32_w]
              rfl
            refine pure_ (i := 8) (N := some 66) (v := ?_) (a' := ?_) #[true, true, true, true, true, false, false, true, true, false, false, false] rfl rfl (any_of HT_.out (by kernel_rfl)) (fun _ _ _ h => h) (Or.inl ⟨by rfl, ?_⟩) ?_ ?_
            rotate_left
            · intro w'
              go_simp
              with_reducible rfl
            rotate_left
            · simp only [Act.put, List.setIfInBounds_toArray, List.set_cons_zero, List.set_cons_succ, i64_w, i32_w]
              rfl
            refine pure_ (i := 9) (N := some 67) (v := ?_) (a' := ?_) #[true, true, true, true, true, false, false, true, true, true, false, false] rfl rfl (any_of HT_.out (by kernel_rfl)) (fun _ _ _ h => h) (Or.inl ⟨by rfl, ?_⟩) ?_ ?_
            rotate_left
            · intro w'
              go_simp
              with_reducible rfl
            rotate_left
            · simp only [Act.put, List.setIfInBounds_toArray, List.set_cons_zero, List.set_cons_succ, i64_w, i32_w]
              rfl
            refine take_ (i := 5) (N := some 63) (v := ?_) (a' := ?_) #[true, true, true, true, true, true, false, true, true, true, false, false] rfl rfl (take_ofW HT_.out HW_.out (by kernel_rfl)) (fun _ _ _ h => h) (Or.inl ⟨by rfl, ?_⟩) hHeld ?_ ?_
            rotate_left
            · rintro w' ⟨s0, s1, s2⟩
              go_simp
              with_reducible rfl
            rotate_left
            · simp only [Act.put, List.setIfInBounds_toArray, List.set_cons_zero, List.set_cons_succ, i64_w, i32_w]
              rfl
            refine pure_ (i := 6) (N := some 64) (v := ?_) (a' := ?_) #[true, true, true, true, true, true, true, true, true, true, false, false] rfl rfl (any_of HT_.out (by kernel_rfl)) (fun _ _ _ h => h) (Or.inl ⟨by rfl, ?_⟩) ?_ ?_
            rotate_left
            · intro w'
              go_simp
              with_reducible rfl
            rotate_left
            · simp only [Act.put, List.setIfInBounds_toArray, List.set_cons_zero, List.set_cons_succ, i64_w, i32_w]
              rfl
            refine take_ (i := 10) (N := some 68) (v := ?_) (a' := ?_) #[true, true, true, true, true, true, true, true, true, true, true, false] rfl rfl (take_ofW HT_.out HW_.out (by kernel_rfl)) (fun _ _ _ h => h) (Or.inl ⟨by rfl, ?_⟩) hHeld ?_ ?_
            rotate_left
            · rintro w' ⟨s0, s1, s2⟩
              go_simp
              with_reducible rfl
            rotate_left
            · simp only [Act.put, List.setIfInBounds_toArray, List.set_cons_zero, List.set_cons_succ, i64_w, i32_w]
              rfl
            refine last_ (i := 11) (N := some 69) #[true, true, true, true, true, true, true, true, true, true, true, true] rfl rfl (one_of HT_.out (by kernel_rfl)) (by decide) (fun K hK => ?_)
            refine goes_ Try.func9 (by kernel_rfl) rfl #[.pointer (some ⟨gb, 0, none⟩), .int .i64 ((rd_T24 l i).f0.tmod 3), .string ⟨#[121]⟩, .agg #[.int .i64 (rd_T24 l i).f0, .int .u64 (rd_T24 l i).f1, .int .u64 (rd_T24 l i).f2]] (by rfl) rfl rfl (by simp only [List.map_toArray, List.map_cons, List.map_nil]; rfl) ?_
            with_reducible refine (HWR2.out).mono ?_
            rintro e w10 ⟨⟨n10, rfl⟩, hI10, hF10⟩
            refine ⟨_, rfl, ?_⟩
            have HI10 := Lib.hid hI10
            have HF10 := Lib.hid hF10
            clear hI10 hF10
            refine hK.out _ _ ?_
            clear hK K
            refine norm_ (a' := ?_) ?_ ?_
            rotate_left
            · show Act.put _ (some 69) _ = _
              simp only [Act.put, List.setIfInBounds_toArray, List.set_cons_zero, List.set_cons_succ, i64_w, i32_w]
              rfl
            refine done_ (done_of HT_.out (by kernel_rfl)) ?_
            go_wp2_with fail
            obtain ⟨h1, h2, h3, hg, hl9⟩ := H123.out
            have hn := HN.out
            go_roundg (gk - 1)
            case measure => omega
            case rel =>
              have hl10 := wr_len (Buf.wr m2 (blkOf (rd_T24 l i).f0) xb (rd_T24 l i) (ver + 1)) (blkOf (rd_T24 l i).f0) yb (rd_T24 l i) (ver + 1 + 1)
              refine ⟨i - 1, _, ver + 1 + 1, rfl, ⟨by omega⟩, ⟨⟨by omega, by omega, by omega, by omega, HI10.out, HV9.out.other yx _ _, by omega, ?_, ?_, ?_⟩⟩⟩
              · exact Is.other (w := w9.drew) HA9.out HF10.out hn.2.2.1 hn.2.2.2.1 hn.2.2.2.2.1 hn.2.2.2.2.2
              · exact Fr.blk (w := w9.drew) HF10.out HX9.out hn.2.1.2.2.1 hn.2.1.2.2.2
              · exact Fr.below (below_drew HB9.out) HF10.out HB9.out.size hn.1.2.2.2.1 hn.1.2.2.2.2
          · go_wp2_with fail
            refine start_ (n := 12) (S := fun w' => w'.cell? (ad.add (i.toNat * 3)) = some (.int .i64 (rd_T24 l i).f0) ∧ w'.cell? ⟨(ad.add (i.toNat * 3)).block, (ad.add (i.toNat * 3)).off + 1, none⟩ = some (.int .u64 (rd_T24 l i).f1) ∧ w'.cell? ⟨(ad.add (i.toNat * 3)).block, (ad.add (i.toNat * 3)).off + 2, none⟩ = some (.int .u64 (rd_T24 l i).f2)) (ds := [11]) #[false, false, false, false, false, false, false, false, false, false, false, false] (by kernel_rfl) rfl rfl ⟨q0, q1, q2⟩ (fun hHeld => ?_)
            refine with_tabW View_r.tab12 View_r.bits12 (fun HT_ HW_ => ?_)
            refine pure_ (i := 0) (N := some 42) (v := ?_) (a' := ?_) #[true, false, false, false, false, false, false, false, false, false, false, false] rfl rfl (any_of HT_.out (by kernel_rfl)) (fun _ _ _ h => h) (Or.inl ⟨by rfl, ?_⟩) ?_ ?_
            rotate_left
            · intro w'
              go_simp
              with_reducible rfl
            rotate_left
            · simp only [Act.put, List.setIfInBounds_toArray, List.set_cons_zero, List.set_cons_succ, i64_w, i32_w]
              rfl
            refine pure_ (i := 1) (N := some 43) (v := ?_) (a' := ?_) #[true, true, false, false, false, false, false, false, false, false, false, false] rfl rfl (any_of HT_.out (by kernel_rfl)) (fun _ _ _ h => h) (Or.inl ⟨by rfl, ?_⟩) ?_ ?_
            rotate_left
            · intro w'
              go_simp
              with_reducible rfl
            rotate_left
            · simp only [Act.put, List.setIfInBounds_toArray, List.set_cons_zero, List.set_cons_succ, i64_w, i32_w]
              rfl
            refine pure_ (i := 2) (N := some 44) (v := ?_) (a' := ?_) #[true, true, true, false, false, false, false, false, false, false, false, false] rfl rfl (any_of HT_.out (by kernel_rfl)) (fun _ _ _ h => h) (Or.inl ⟨by rfl, ?_⟩) ?_ ?_
            rotate_left
            · intro w'
              go_simp
              with_reducible rfl
            rotate_left
            · simp only [Act.put, List.setIfInBounds_toArray, List.set_cons_zero, List.set_cons_succ, i64_w, i32_w]
              rfl
            refine pure_ (i := 3) (N := some 45) (v := ?_) (a' := ?_) #[true, true, true, true, false, false, false, false, false, false, false, false] rfl rfl (any_of HT_.out (by kernel_rfl)) (fun _ _ _ h => h) (Or.inl ⟨by rfl, ?_⟩) ?_ ?_
            rotate_left
            · intro w'
              go_simp
              with_reducible rfl
            rotate_left
            · simp only [Act.put, List.setIfInBounds_toArray, List.set_cons_zero, List.set_cons_succ, i64_w, i32_w]
              rfl
            refine pure_ (i := 4) (N := some 46) (v := ?_) (a' := ?_) #[true, true, true, true, true, false, false, false, false, false, false, false] rfl rfl (any_of HT_.out (by kernel_rfl)) (fun _ _ _ h => h) (Or.inl ⟨by rfl, ?_⟩) ?_ ?_
            rotate_left
            · intro w'
              go_simp
              with_reducible rfl
            rotate_left
            · simp only [Act.put, List.setIfInBounds_toArray, List.set_cons_zero, List.set_cons_succ, i64_w, i32_w]
              rfl
            refine pure_ (i := 7) (N := some 49) (v := ?_) (a' := ?_) #[true, true, true, true, true, false, false, true, false, false, false, false] rfl rfl (any_of HT_.out (by kernel_rfl)) (fun _ _ _ h => h) (Or.inl ⟨by rfl, ?_⟩) ?_ ?_
            rotate_left
            · intro w'
              go_simp
              with_reducible rfl
            rotate_left
            · simp only [Act.put, List.setIfInBounds_toArray, List.set_cons_zero, List.set_cons_succ, i64_w, i32_w]
              rfl
            refine pure_ (i := 8) (N := some 50) (v := ?_) (a' := ?_) #[true, true, true, true, true, false, false, true, true, false, false, false] rfl rfl (any_of HT_.out (by kernel_rfl)) (fun _ _ _ h => h) (Or.inl ⟨by rfl, ?_⟩) ?_ ?_
            rotate_left
            · intro w'
              go_simp
              with_reducible rfl
            rotate_left
            · simp only [Act.put, List.setIfInBounds_toArray, List.set_cons_zero, List.set_cons_succ, i64_w, i32_w]
              rfl
            refine pure_ (i := 9) (N := some 51) (v := ?_) (a' := ?_) #[true, true, true, true, true, false, false, true, true, true, false, false] rfl rfl (any_of HT_.out (by kernel_rfl)) (fun _ _ _ h => h) (Or.inl ⟨by rfl, ?_⟩) ?_ ?_
            rotate_left
            · intro w'
              go_simp
              with_reducible rfl
            rotate_left
            · simp only [Act.put, List.setIfInBounds_toArray, List.set_cons_zero, List.set_cons_succ, i64_w, i32_w]
              rfl
            refine take_ (i := 5) (N := some 47) (v := ?_) (a' := ?_) #[true, true, true, true, true, true, false, true, true, true, false, false] rfl rfl (take_ofW HT_.out HW_.out (by kernel_rfl)) (fun _ _ _ h => h) (Or.inl ⟨by rfl, ?_⟩) hHeld ?_ ?_
            rotate_left
            · rintro w' ⟨s0, s1, s2⟩
              go_simp
              with_reducible rfl
            rotate_left
            · simp only [Act.put, List.setIfInBounds_toArray, List.set_cons_zero, List.set_cons_succ, i64_w, i32_w]
              rfl
            refine pure_ (i := 6) (N := some 48) (v := ?_) (a' := ?_) #[true, true, true, true, true, true, true, true, true, true, false, false] rfl rfl (any_of HT_.out (by kernel_rfl)) (fun _ _ _ h => h) (Or.inl ⟨by rfl, ?_⟩) ?_ ?_
            rotate_left
            · intro w'
              go_simp
              with_reducible rfl
            rotate_left
            · simp only [Act.put, List.setIfInBounds_toArray, List.set_cons_zero, List.set_cons_succ, i64_w, i32_w]
              rfl
            refine take_ (i := 10) (N := some 52) (v := ?_) (a' := ?_) #[true, true, true, true, true, true, true, true, true, true, true, false] rfl rfl (take_ofW HT_.out HW_.out (by kernel_rfl)) (fun _ _ _ h => h) (Or.inl ⟨by rfl, ?_⟩) hHeld ?_ ?_
            rotate_left
            · rintro w' ⟨s0, s1, s2⟩
              go_simp
              with_reducible rfl
            rotate_left
            · simp only [Act.put, List.setIfInBounds_toArray, List.set_cons_zero, List.set_cons_succ, i64_w, i32_w]
              rfl
            refine last_ (i := 11) (N := some 53) #[true, true, true, true, true, true, true, true, true, true, true, true] rfl rfl (one_of HT_.out (by kernel_rfl)) (by decide) (fun K hK => ?_)
            refine goes_ Try.func9 (by kernel_rfl) rfl #[.pointer (some ⟨gb, 0, none⟩), .int .i64 ((rd_T24 l i).f0.tmod 3), .string ⟨#[120]⟩, .agg #[.int .i64 (rd_T24 l i).f0, .int .u64 (rd_T24 l i).f1, .int .u64 (rd_T24 l i).f2]] (by rfl) rfl rfl (by simp only [List.map_toArray, List.map_cons, List.map_nil]; rfl) ?_
            with_reducible refine (HWR.out).mono ?_
            rintro e w9 ⟨⟨n9, rfl⟩, hI9, hF9⟩
            refine ⟨_, rfl, ?_⟩
            have HI9 := Lib.hid hI9
            have HF9 := Lib.hid hF9
            clear hI9 hF9
            refine hK.out _ _ ?_
            clear hK K
            refine norm_ (a' := ?_) ?_ ?_
            rotate_left
            · show Act.put _ (some 53) _ = _
              simp only [Act.put, List.setIfInBounds_toArray, List.set_cons_zero, List.set_cons_succ, i64_w, i32_w]
              rfl
            refine done_ (done_of HT_.out (by kernel_rfl)) ?_
            have hr := HRB.out
            have hn := HN.out
            have HB9 := Lib.hid (Fr.below (below_drew hr.bel) HF9.out hr.bel.size hn.1.2.2.2.1 hn.1.2.2.2.2)
            have HA9 := Lib.hid (Is.other (w := wr.drew) hr.isA HF9.out hn.2.2.1 hn.2.2.2.1 hn.2.2.2.2.1 hn.2.2.2.2.2)
            have HX9 := Lib.hid (Fr.blk (w := wr.drew) HF9.out hr.box hn.2.1.2.2.1 hn.2.1.2.2.2)
            have hl9 := wr_len m2 (blkOf (rd_T24 l i).f0) xb (rd_T24 l i) (ver + 1)
            have HV9 := Lib.hid (show Inv blkOf xb (Buf.wr m2 (blkOf (rd_T24 l i).f0) xb (rd_T24 l i) (ver + 1)) (l.drop (i - 1 + 1).toNat) from by
              rw [show i - 1 + 1 = i from by omega, HM.out.2.2]
              exact hr.inv.write hr.isB.2.nodup _ _)
            have h1 := hr.len
            have h2 := hr.v0
            have h3 := hr.v1
            have hg := HG.out
            go_wp2_with fail
            go_roundg (gk - 1)
            case measure => omega
            case rel => exact ⟨i - 1, _, ver + 1, rfl, ⟨by omega⟩, ⟨⟨by omega, by omega, by omega, by omega, HI9.out, HV9.out, by omega, HA9.out, HX9.out, HB9.out⟩⟩⟩
        · have he : i = -1 := by omega
          subst he
          have hrb := HRB.out
          have HVB := Lib.hid (show Inv blkOf xb m2 l from by have := hrb.inv; rwa [show ((-1 : Int) + 1).toNat = 0 from rfl, List.drop_zero] at this)
          have d0 : wr.cell? ⟨g5, 0, none⟩ = some (.int .i64 lo) := (blk_cell hrb.box 0).trans rfl
          have d1 : wr.cell? ⟨g5, 1, none⟩ = some (.int .i64 hi) := (blk_cell hrb.box 1).trans rfl
          have HVW := Lib.hid (rview_any (X := wr.drew) (Kd.C_below HC.out (below_drew hrb.bel)) hc (by omega))
          have HM1 := Lib.hid (show m.length ≤ 1000000000 from by have := HAl.out; have := Vw.view_len l; omega)
          have HM2 := Lib.hid (show m2.length ≤ 1000000000 from by have := hrb.len; have := hrb.v1; omega)
          have HCL := Lib.hid (show (Vw.cut (Vw.view l) lo hi).length ≤ 1099511627776 from by have := Vw.cut_len (Vw.view l) lo hi; have := Vw.view_len l; omega)
          have HL2 := Lib.hid (show l.length ≤ 1099511627776 from by omega)
          clear hrb
          go_wp2_with fail
          refine start_ (n := 5) (S := fun w' => w'.cell? ⟨g5, 0, none⟩ = some (.int .i64 lo) ∧ w'.cell? ⟨g5, 1, none⟩ = some (.int .i64 hi)) (ds := [3]) #[false, false, false, false, false] (by kernel_rfl) rfl rfl ⟨d0, d1⟩ (fun hHeld => ?_)
          refine with_tabW View_r.tab15 View_r.bits15 (fun HT_ HW_ => ?_)
          refine pure_ (i := 0) (N := some 70) (v := ?_) (a' := ?_) #[true, false, false, false, false] rfl rfl (any_of HT_.out (by kernel_rfl)) (fun _ _ _ h => h) (Or.inl ⟨by rfl, ?_⟩) ?_ ?_
          rotate_left
          · intro w'
            go_simp
            with_reducible rfl
          rotate_left
          · simp only [Act.put, List.setIfInBounds_toArray, List.set_cons_zero, List.set_cons_succ, i64_w, i32_w]
            rfl
          refine take_ (i := 2) (N := some 72) (v := ?_) (a' := ?_) #[true, false, true, false, false] rfl rfl (take_ofW HT_.out HW_.out (by kernel_rfl)) (fun _ _ _ h => h) (Or.inl ⟨by rfl, ?_⟩) hHeld ?_ ?_
          rotate_left
          · rintro w' ⟨s0, s1⟩
            go_simp
            with_reducible rfl
          rotate_left
          · simp only [Act.put, List.setIfInBounds_toArray, List.set_cons_zero, List.set_cons_succ, i64_w, i32_w]
            rfl
          refine one_ (i := 1) (N := some 71) #[true, true, true, false, false] rfl rfl (one_of HT_.out (by kernel_rfl)) (by decide) (fun K hK => ?_)
          refine goes_ Try.func14 (by kernel_rfl) rfl #[.slice A0 l.length c0] (by rfl) rfl rfl (by simp only [List.map_toArray, List.map_cons, List.map_nil]; rfl) ?_
          with_reducible refine (HVW.out).mono ?_
          rintro e wv ⟨vv, rfl, hRv, hBv⟩
          refine ⟨_, rfl, ?_⟩
          have HRv := Lib.hid hRv
          have HBv := Lib.hid hBv
          have HCT := Lib.hid (rcut_any hRv lo hi (Nat.le_trans (Vw.view_len l) (by omega)))
          clear hRv hBv
          refine hK.out _ _ ⟨(blk_cell (blk_below (w := wr.drew) HRB.out.box HBv.out) 0).trans rfl, (blk_cell (blk_below (w := wr.drew) HRB.out.box HBv.out) 1).trans rfl⟩ (fun hHeld => ?_)
          clear hK K
          refine norm_ (a' := ?_) ?_ ?_
          rotate_left
          · show Act.put _ (some 71) _ = _
            simp only [Act.put, List.setIfInBounds_toArray, List.set_cons_zero, List.set_cons_succ, i64_w, i32_w]
            rfl
          refine last_ (i := 3) (N := some 73) #[true, true, true, true, false] rfl rfl (one_of HT_.out (by kernel_rfl)) (by decide) (fun K hK => ?_)
          refine goes_ Try.func13 (by kernel_rfl) rfl #[vv, .agg #[.int .i64 lo, .int .i64 hi]] (by rfl) rfl rfl (by simp only [List.map_toArray, List.map_cons, List.map_nil]; rfl) ?_
          with_reducible refine (HCT.out).mono ?_
          rintro e wx ⟨vx, rfl, hRx, hBx⟩
          refine ⟨_, rfl, ?_⟩
          have HRx := Lib.hid hRx
          have HBx := Lib.hid hBx
          clear hRx hBx
          refine hK.out _ _ ?_
          clear hK K
          refine norm_ (a' := ?_) ?_ ?_
          rotate_left
          · show Act.put _ (some 73) _ = _
            simp only [Act.put, List.setIfInBounds_toArray, List.set_cons_zero, List.set_cons_succ, i64_w, i32_w]
            rfl
          refine pure_ (i := 4) (N := some 11) (v := ?_) (a' := ?_) #[true, true, true, true, true] rfl rfl (any_of HT_.out (by kernel_rfl)) (fun _ _ _ h => h) (Or.inl ⟨by rfl, ?_⟩) ?_ ?_
          rotate_left
          · intro w'
            go_simp
            with_reducible rfl
          rotate_left
          · simp only [Act.put, List.setIfInBounds_toArray, List.set_cons_zero, List.set_cons_succ, i64_w, i32_w]
            rfl
          refine done_ (done_of HT_.out (by kernel_rfl)) ?_
          have hrb := HRB.out
          have hbx : Below wr.heap.size wr wx := below_then (show Below wr.heap.size wr wv from ⟨HBv.out.os, HBv.out.tape, HBv.out.output, HBv.out.size, HBv.out.block⟩) HBv.out.size HBx.out
          have HA1 := Lib.hid (hrb.isA.below hbx)
          have HB1 := Lib.hid (hrb.isB.below hbx)
          have HX1 := Lib.hid (blk_below hrb.box hbx)
          have HL1 := Lib.hid (below_then hrb.bel hrb.bel.size hbx)
          have HW1 := Lib.hid HRx.out
          clear hrb hbx d0 d1 HRx HBx HRv HBv HCT
          have d0 := (blk_cell HX1.out 0).trans (show _ = some (.int .i64 lo) from rfl)
          have d1 := (blk_cell HX1.out 1).trans (show _ = some (.int .i64 hi) from rfl)
          go_wp2_with fail
          with_reducible refine (read_calls _ ga ba m l.length HA1.out xb lo hi HM1.out).mono ?_
          rintro e w1 ⟨v1, rfl, hR, hB⟩
          rw [HA.out.view] at hR
          have HA2 := Lib.hid (HA1.out.below hB)
          have HB2 := Lib.hid (HB1.out.below hB)
          have HX2 := Lib.hid (blk_below HX1.out hB)
          have HL3 := Lib.hid (below_then HL1.out HL1.out.size hB)
          have HW2 := Lib.hid (Kd.R_below HW1.out hB)
          have HR2 := Lib.hid hR
          clear hR hB d0 d1 HA1 HB1 HX1 HL1 HW1
          go_wp2_with fail
          with_reducible refine (same_any HR2.out HW2.out HCL.out).mono ?_
          rintro e w2 ⟨rfl, hB⟩
          have HA3 := Lib.hid (HA2.out.below hB)
          have HB3 := Lib.hid (HB2.out.below hB)
          have HX3 := Lib.hid (blk_below HX2.out hB)
          have HL4 := Lib.hid (below_then HL3.out HL3.out.size hB)
          have HW3 := Lib.hid (Kd.R_below HW2.out hB)
          clear hB HA2 HB2 HX2 HL3 HW2 HR2
          have d0 := (blk_cell HX3.out 0).trans (show _ = some (.int .i64 lo) from rfl)
          have d1 := (blk_cell HX3.out 1).trans (show _ = some (.int .i64 hi) from rfl)
          go_wp2_with fail
          with_reducible refine (read_calls _ gb bb m2 ver HB3.out xb lo hi HM2.out).mono ?_
          rintro e w3 ⟨v3, rfl, hR, hB⟩
          rw [HVB.out.view] at hR
          have HA4 := Lib.hid (HA3.out.below hB)
          have HL5 := Lib.hid (below_then HL4.out HL4.out.size hB)
          have HW4 := Lib.hid (Kd.R_below HW3.out hB)
          have HR4 := Lib.hid hR
          clear hR hB d0 d1 HA3 HB3 HX3 HL4 HW3
          go_wp2_with fail
          with_reducible refine (same_any HR4.out HW4.out HCL.out).mono ?_
          rintro e w4 ⟨rfl, hB⟩
          have HA5 := Lib.hid (HA4.out.below hB)
          have HL6 := Lib.hid (below_then HL5.out HL5.out.size hB)
          clear hB HA4 HL5 HW4 HR4
          go_wp2_with fail
          with_reducible refine (len_calls _ ga ba m l.length HA5.out).mono ?_
          rintro e w5 ⟨rfl, rfl⟩
          go_wp2_with fail
          with_reducible refine (rview_any (Kd.C_below HC.out HL6.out) hc HL2.out).mono ?_
          rintro e w6 ⟨v6, rfl, hR, hB⟩
          obtain ⟨A6, c6, rfl⟩ := Kd.R_slice hR
          have HL7 := Lib.hid (below_then HL6.out HL6.out.size hB)
          have hq : ((m.length : Int) == ((Vw.view l).length : Int)) = true := by rw [HAl.out]; simp
          clear hR hB
          go_wp2
          go_ret
          exact ⟨rfl, HL7.out⟩
set_option maxHeartbeats 1000000 in
theorem view_long (w : World) (A0 : Option Addr) (c0 : Nat) (l : List Pt) (hlen : 256 < l.length) (hm : l.length ≤ maxLen) (A1 : Option Addr) (n1 c1 : Nat) (lo hi : Int) :
    Calls Try.prog 4 #[.slice A0 l.length c0, .slice A1 n1 c1, .agg #[.int .i64 lo, .int .i64 hi]] w fun e w' => e = .returned (.bool true) ∧ Below w.heap.size w w' := by
  have hsz : (l.length : Int) > 256 := by omega
  have HB := Aside0.mk (below_alloc (Below.refl w.heap.size w) (.cells #[.int .i64 lo, .int .i64 hi] 32))
  go_enter Try.func4, Try.ntmps4
  go_wp2
  go_ret
  exact ⟨rfl, HB.out⟩
end Buf
end Go.Proofs.Ytmocpglnoehknaa
