/- BufferTwice: the walk. -/
import Derived.Test.YtmocpglnoehknaaBuf1
import Derived.Deep.Cut
namespace Go.Proofs.Ytmocpglnoehknaa
set_option linter.unusedVariables false
set_option linter.unusedSimpArgs false
open Go.RowKit Go.Proofs.YtmocpglnoehknaaW.PrintWords Go.Proofs.YtmocpglnoehknaaW.PrintLast Go.Proofs.YtmocpglnoehknaaW.PrintMore Go.Proofs.Ytmocpglnoehknaa.QT
namespace Buf
theorem Fr.blk {g b : Nat} {w w' : World} (h : Fr g b w w') {i : Nat} {o : Obj} (hb : w.heap[i]? = some o) (h1 : i ≠ g) (h2 : i ≠ b) : w'.heap[i]? = some o := (h.block i (blk_lt hb) h1 h2).trans hb
theorem new_any (w : World) : Calls Try.prog 8 #[] w fun e w' => ∃ g b, e = .returned (.pointer (some ⟨g, 0, none⟩)) ∧ w.heap.size ≤ g ∧ w.heap.size ≤ b ∧ Is w' g b [] 0 ∧ Below w.heap.size w w' :=
  (new_calls w).mono fun e w' ⟨he, h1, h2⟩ => ⟨_, _, he, by omega, Nat.le_refl _, h1, h2⟩
theorem wins_self (p : Pt) : winsP p p = false := (Vw.wins_false p p).2 (Vw.Ge.refl p)
theorem view_one (x : Pt) : Vw.view [x] = [x] := rfl
/-- A block of a point's cells, read. -/
structure PtAt (w : World) (g : Nat) (p : Pt) : Prop where
  blk : w.heap[g]? = some (.cells #[.int .i64 p.f0, .int .u64 p.f1, .int .u64 p.f2] 24 (0, 0))
theorem PtAt.c0 {w : World} {g : Nat} {p : Pt} (h : PtAt w g p) : w.cell? ⟨g, 0, none⟩ = some (.int .i64 p.f0) := (blk_cell h.blk 0).trans rfl
theorem PtAt.c1 {w : World} {g : Nat} {p : Pt} (h : PtAt w g p) : w.cell? ⟨g, 1, none⟩ = some (.int .u64 p.f1) := (blk_cell h.blk 1).trans rfl
theorem PtAt.c2 {w : World} {g : Nat} {p : Pt} (h : PtAt w g p) : w.cell? ⟨g, 2, none⟩ = some (.int .u64 p.f2) := (blk_cell h.blk 2).trans rfl
theorem PtAt.below {w w' : World} {g : Nat} {p : Pt} (h : PtAt w g p) (hb : Below w.heap.size w w') : PtAt w' g p := ⟨blk_below h.blk hb⟩
theorem PtAt.fr {w w' : World} {g g' b' : Nat} {p : Pt} (h : PtAt w g p) (k : Fr g' b' w w') (h1 : g ≠ g') (h2 : g ≠ b') : PtAt w' g p := ⟨k.blk h.blk h1 h2⟩
theorem PtAt.lt {w : World} {g : Nat} {p : Pt} (h : PtAt w g p) : g < w.heap.size := blk_lt h.blk
theorem write_first (X : World) (g b : Nat) (h : Is X g b [] 0) (blk : Int) (idn : ByteArray) (p : Pt) (hk : OkP ⟨blk, idn, p.f0⟩) :
    Calls Try.prog 9 #[.pointer (some ⟨g, 0, none⟩), .int .i64 blk, .string idn, .agg #[.int .i64 p.f0, .int .u64 p.f1, .int .u64 p.f2]] X fun e w' => e = .returned (.int .i64 1) ∧ Is w' g b [(⟨blk, idn, p.f0⟩, ⟨p, 1⟩)] 1 ∧ Fr g b X w' :=
  write_calls X g b [] 0 h blk idn p hk (by omega) (by omega) (by unfold maxLen; simp)
theorem write_same (X : World) (g b : Nat) (t : Int) (hd : Held) (ver ver' : Int) (blk : Int) (idn : ByteArray) (h : Is X g b [(⟨blk, idn, t⟩, hd)] ver) (hv : ver + 1 = ver') (h0 : 0 ≤ ver) (h1 : ver < 100) (x : Pt) (hx : x.f0 = t) (hk : OkP ⟨blk, idn, t⟩) :
    Calls Try.prog 9 #[.pointer (some ⟨g, 0, none⟩), .int .i64 blk, .string idn, .agg #[.int .i64 x.f0, .int .u64 x.f1, .int .u64 x.f2]] X fun e w' => e = .returned (.int .i64 ver') ∧ (∃ hd', Is w' g b [(⟨blk, idn, t⟩, hd')] ver' ∧ hd'.p = if winsP x hd.p = true then x else hd.p) ∧ Fr g b X w' := by
  subst hx
  subst hv
  refine (write_calls X g b _ ver h blk idn x hk h0 (by omega) (by unfold maxLen; simp)).mono fun e w' ⟨he, hi, hf⟩ => ⟨he, ?_, hf⟩
  have e1 : wr [(⟨blk, idn, x.f0⟩, hd)] blk idn x (ver + 1) = if winsP x hd.p = true then [(⟨blk, idn, x.f0⟩, ⟨x, ver + 1⟩)] else [(⟨blk, idn, x.f0⟩, hd)] := by
    simp [wr, XM.aget, XM.aput]
  rw [e1] at hi
  by_cases hw : winsP x hd.p = true
  · rw [if_pos hw] at hi
    exact ⟨_, hi, by rw [if_pos hw]⟩
  · rw [if_neg hw] at hi
    exact ⟨_, hi, by rw [if_neg hw]⟩
/-- A row of one point, opened. -/
theorem own_one {Y : World} {base : Nat} {ok : Nat → Prop} {v : Value} {x : Pt} (h : Kd.R k24 24 Y base ok v [x]) : ∃ gb cap, v = .slice (some ⟨gb, 0, none⟩) 1 cap ∧ Y.cell? ⟨gb, 0, none⟩ = some (.int .i64 x.f0) ∧ Y.cell? ⟨gb, 1, none⟩ = some (.int .u64 x.f1) ∧ Y.cell? ⟨gb, 2, none⟩ = some (.int .u64 x.f2) := by
  obtain ⟨inner, ho⟩ := Kd.R_own h
  rcases ho with ⟨_, ⟨_, h0⟩ | ⟨gb, cap, cur, rfl, _⟩⟩
  · simp at h0
  · obtain ⟨_, _, hC⟩ := Kd.R_reads' h
    obtain ⟨ad, he, h0, h1, h2⟩ := at_T24 hC 0 (by omega) (by simp)
    cases he
    exact ⟨gb, cap, rfl, by simpa [rd_T24, Addr.add] using h0, by simpa [rd_T24, Addr.add] using h1, by simpa [rd_T24, Addr.add] using h2⟩
/-- An empty row. -/
theorem own_none {Y : World} {base : Nat} {ok : Nat → Prop} {v : Value} (h : Kd.R k24 24 Y base ok v []) : ∃ A c, v = .slice A 0 c := Kd.R_slice h
theorem len_one (X : World) (g b : Nat) (a : Place) (hd : Held) (ver : Int) (h : Is X g b [(a, hd)] ver) : Calls Try.prog 10 #[.pointer (some ⟨g, 0, none⟩)] X fun e w' => e = .returned (.int .i64 1) ∧ X = w' := len_calls X g b _ ver h
def Twice_max.T12 : Bool × List (List Nat × List Nat) := (true, [([], []), ([0], [0]), ([1], [1]), ([2, 1], [2]), ([3], [3]), ([4, 3], [3, 4]), ([5, 3], [3, 5]), ([6, 3, 3], [3, 6]), ([7], [7]), ([8, 7], [7, 8]), ([9, 7], [7, 9]), ([7, 10, 3], [3, 7, 10]), ([11, 7, 3], [3, 11]), ([12], [12]), ([13, 12], [12, 13]), ([14, 12], [12, 14]), ([15, 12, 12], [12, 15]), ([16], [16]), ([17, 16], [16, 17]), ([18, 16], [16, 18]), ([16], [16]), ([19, 20, 16], [16, 19, 20]), ([16, 21, 12], [12, 16, 21]), ([12, 22, 3], [3, 12, 22]), ([3, 23], [3, 23]), ([24, 16], [24]), ([25], [25]), ([25], [25]), ([25], [25]), ([25], [25]), ([26, 27, 28, 29, 25, 25], [25, 26, 27, 28, 29]), ([30, 25], [25, 30]), ([25, 31], [25, 31]), ([32, 30, 0, 1, 2, 3, 4, 5, 6, 7, 8, 9, 10, 11, 12, 13, 14, 15, 16, 17, 18, 19, 20, 21, 22, 23, 24, 25, 26, 27, 28, 29, 30, 31, 32], [32])])
def Twice_max.B12 : List Nat := [0, 1, 3, 7, 15, 31, 63, 127, 255, 511, 1023, 2047, 4095, 8191, 16383, 32767, 65535, 131071, 262143, 524287, 131071, 2097151, 4194303, 8388607, 16777215, 33554431, 67108863, 67108863, 67108863, 67108863, 1073741823, 2147483647, 4294967295, 8589934591]
theorem Twice_max.tab12 : rtab .any (opsOf Try.f3 12) = Twice_max.T12 := by kernel_rfl
theorem Twice_max.bits12 : waitsOk Twice_max.T12.2 Twice_max.B12 = true := by kernel_rfl
set_option maxHeartbeats 8000000 in
set_option maxRecDepth 100000 in
theorem twice_max (w : World) (blk : Int) (idn : ByteArray) (p q : Pt) (hk : OkP ⟨blk, idn, p.f0⟩) (hs : idn.size ≤ 4096) (hm : p.f0 = 9223372036854775807) :
    Calls Try.prog 3 #[.int .i64 blk, .string idn, .agg #[.int .i64 p.f0, .int .u64 p.f1, .int .u64 p.f2], .agg #[.int .i64 q.f0, .int .u64 q.f1, .int .u64 q.f2]] w fun e w' => e = .returned (.bool true) ∧ Below w.heap.size w w' := by
  have hsz : ¬ ((idn.size : Int) > 4096) := by omega
  obtain ⟨x, hx0, hx1, hx2⟩ : ∃ x : Pt, p.f0 = x.f0 ∧ q.f1 = x.f1 ∧ q.f2 = x.f2 := ⟨⟨p.f0, q.f1, q.f2⟩, rfl, rfl, rfl⟩
  have HX := Lib.hid (And.intro hx0 (And.intro hx1 hx2))
  clear hx0 hx1 hx2
  have HK := Lib.hid hk
  have HMM := Lib.hid hm
  clear hk hm
  go_enter Try.func3, Try.ntmps3
  go_wp2_with (first
    | ((with_reducible refine gate_dst (N := 6) rfl ?_); refine box_event rfl (N := 6) rfl (cs := #[.int .i64 p.f0, .int .u64 p.f1, .int .u64 p.f2]) (t := 24) ?hr ?_; (case hr => first | (go_simp; done) | (go_simp; rfl)); intro gp hgp w1 hbox hb1; have HP1 := Lib.hid (And.intro hgp (And.intro (PtAt.mk hbox) hb1)); clear hgp hbox hb1)
    | ((with_reducible refine gate_dst (N := 7) rfl ?_); refine box_event rfl (N := 7) rfl (cs := #[.int .i64 q.f0, .int .u64 q.f1, .int .u64 q.f2]) (t := 24) ?hr ?_; (case hr => first | (go_simp; done) | (go_simp; rfl)); intro gq hgq w2 hbox hb1; have HQ1 := Lib.hid (And.intro hgq (And.intro (PtAt.mk hbox) hb1)); clear hgq hbox hb1)
    | fail)
  with_reducible refine (new_any _).mono ?_
  rintro e w3 ⟨g, b, rfl, hgg, hgb, hI0, hB3⟩
  obtain ⟨hgp, hP1, hb1⟩ := HP1.out
  obtain ⟨hgq, hQ2, hb2⟩ := HQ1.out
  have hl1 := hP1.lt
  have hl2 := hQ2.lt
  have hs1 := hb1.size
  have hs2 := hb2.size
  have HN := Lib.hid (show (gp ≠ g ∧ gp ≠ b ∧ gq ≠ g ∧ gq ≠ b ∧ gp ≠ gq) ∧ w.heap.size ≤ g ∧ w.heap.size ≤ b ∧ w.heap.size ≤ gp ∧ w.heap.size ≤ gq by omega)
  have HP3 := Lib.hid ((hP1.below hb2).below hB3)
  have HQ3 := Lib.hid (hQ2.below hB3)
  have HB3 := Lib.hid (below_then (below_then hb1 hb1.size hb2) (by omega) hB3)
  have HI3 := Lib.hid hI0
  clear hgg hgb hI0 hB3 hgp hP1 hb1 hgq hQ2 hb2 hl1 hl2 hs1 hs2 HP1 HQ1
  have c0 := HP3.out.c0
  have c1 := HP3.out.c1
  have c2 := HP3.out.c2
  go_wp2_with fail
  with_reducible refine (write_first _ g b HI3.out blk idn p HK.out).mono ?_
  rintro e w4 ⟨rfl, hI, hF⟩
  have HP4 := Lib.hid (HP3.out.fr hF HN.out.1.1 HN.out.1.2.1)
  have HQ4 := Lib.hid (HQ3.out.fr hF HN.out.1.2.2.1 HN.out.1.2.2.2.1)
  have HB4 := Lib.hid (Fr.below HB3.out hF HB3.out.size HN.out.2.1 HN.out.2.2.1)
  have HI4 := Lib.hid hI
  clear c0 c1 c2 hI hF HP3 HQ3 HB3 HI3
  have c0 := HP4.out.c0
  have c1 := HP4.out.c1
  have c2 := HP4.out.c2
  go_wp2_with fail
  with_reducible refine (write_same _ g b p.f0 _ 1 2 blk idn HI4.out (by omega) (by omega) (by omega) p rfl HK.out).mono ?_
  rintro e w5 ⟨rfl, ⟨h5, hI, hh⟩, hF⟩
  rw [if_neg (by rw [wins_self]; simp)] at hh
  have HP5 := Lib.hid (HP4.out.fr hF HN.out.1.1 HN.out.1.2.1)
  have HQ5 := Lib.hid (HQ4.out.fr hF HN.out.1.2.2.1 HN.out.1.2.2.2.1)
  have HB5 := Lib.hid (Fr.below HB4.out hF HB4.out.size HN.out.2.1 HN.out.2.2.1)
  have HI5 := Lib.hid hI
  have HH5 := Lib.hid hh
  clear c0 c1 c2 hI hF hh HP4 HQ4 HB4 HI4
  go_wp2_with fail
  with_reducible refine (len_calls _ g b _ 2 HI5.out).mono ?_
  rintro e w6 ⟨rfl, rfl⟩
  have c0 := HP5.out.c0
  have c1 := HP5.out.c1
  have c2 := HP5.out.c2
  have d0 := HQ5.out.c0
  have d1 := HQ5.out.c1
  have d2 := HQ5.out.c2
  have df := blk_frozen HQ5.out.blk 0
  have hpq := HN.out.1.2.2.2.2
  have hqp := hpq.symm
  go_wp2_with fail
  obtain ⟨X, hX⟩ : ∃ X : World, X = w5.setCell ⟨gq, 0, none⟩ (.int .i64 p.f0) := ⟨_, rfl⟩
  rw [← hX]
  have hn := HN.out.1
  have HIX := Lib.hid (show Is X g b [(⟨blk, idn, p.f0⟩, h5)] 2 from by rw [hX]; exact ⟨(Below.heap_setCell _ _ _ _ hn.2.2.1.symm).trans HI5.out.1, HI5.out.2.move (Below.heap_setCell _ _ _ _ hn.2.2.2.1.symm)⟩)
  have HPX := Lib.hid (show PtAt X gp p from by rw [hX]; exact ⟨(Below.heap_setCell _ _ _ _ hpq).trans HP5.out.blk⟩)
  have HQX := Lib.hid (show PtAt X gq x from by
    rw [hX]
    refine ⟨(blk_set HQ5.out.blk 0 _).trans ?_⟩
    rw [← HX.out.2.1, ← HX.out.2.2, HX.out.1]
    rfl)
  have HBX := Lib.hid (show Below w.heap.size w X from by rw [hX]; exact below_set HB5.out HN.out.2.2.2.2)
  clear hX c0 c1 c2 d0 d1 d2 df hpq hqp hn HP5 HQ5 HB5 HI5
  rw [HX.out.1, HX.out.2.1, HX.out.2.2]
  with_reducible refine (write_same _ g b p.f0 _ 2 3 blk idn HIX.out (by omega) (by omega) (by omega) x HX.out.1.symm HK.out).mono ?_
  rintro e w7 ⟨rfl, ⟨h7, hI, hh⟩, hF⟩
  rw [HH5.out] at hh
  have HP7 := Lib.hid (HPX.out.fr hF HN.out.1.1 HN.out.1.2.1)
  have HQ7 := Lib.hid (HQX.out.fr hF HN.out.1.2.2.1 HN.out.1.2.2.2.1)
  have HB7 := Lib.hid (Fr.below HBX.out hF HBX.out.size HN.out.2.1 HN.out.2.2.1)
  have HI7 := Lib.hid hI
  have HH7 := Lib.hid hh
  clear hI hF hh HPX HQX HBX HIX
  go_wp2_with fail
  with_reducible refine (read_calls _ g b _ 3 HI7.out idn (-9223372036854775808) 9223372036854775807 (by simp)).mono ?_
  rintro e w8 ⟨v, rfl, hR, hB⟩
  have hL : Vw.cut (Vw.view (pts idn [(⟨blk, idn, p.f0⟩, h7)])) (-9223372036854775808) 9223372036854775807 = if x.f0 = 9223372036854775807 then [] else [h7.p] := by
    have h1 : pts idn [(⟨blk, idn, p.f0⟩, h7)] = [h7.p] := by simp [pts]
    rw [h1, view_one]
    have hz : h7.p.f0 = x.f0 := by rw [HH7.out]; split; · rfl
                                   · exact HX.out.1
    have hw := HK.out.2.2
    rw [HX.out.1] at hw
    have hw2 : -9223372036854775808 ≤ x.f0 ∧ x.f0 ≤ 9223372036854775807 := by simpa [Lit.wf, IntKind.min, IntKind.max, IntKind.signed, IntKind.bits] using hw
    unfold Vw.cut
    rw [List.filter_cons, hz]
    split
    · rename_i h2
      rw [Bool.and_eq_true, decide_eq_true_iff, decide_eq_true_iff] at h2
      rw [if_neg (by omega)]
      rfl
    · rename_i h2
      rw [Bool.and_eq_true, decide_eq_true_iff, decide_eq_true_iff] at h2
      rw [if_pos (by omega)]
      rfl
  rw [hL] at hR
  have HP8 := Lib.hid (HP7.out.below hB)
  have HQ8 := Lib.hid (HQ7.out.below hB)
  have HB8 := Lib.hid (below_then HB7.out HB7.out.size hB)
  have HI8 := Lib.hid (HI7.out.below hB)
  have HR8 := Lib.hid hR
  clear hL hR hB HP7 HQ7 HB7 HI7
  have c0 := HP8.out.c0
  have c1 := HP8.out.c1
  have c2 := HP8.out.c2
  have d0 := HQ8.out.c0
  have d1 := HQ8.out.c1
  have d2 := HQ8.out.c2
  have l1 := HP8.out.lt
  have l2 := HQ8.out.lt
  obtain ⟨wb, hwb⟩ : ∃ r, winsP x p = r := ⟨_, rfl⟩
  rw [hwb] at HH7
  have HW := Lib.hid (fun X => thermographref06_Wins.calls x.f0 x.f1 x.f2 p.f0 p.f1 p.f2 wb X (by rw [Vw.rwins, hwb]))
  clear hwb
  go_wp2_with fail
  with_reducible refine (HW.out _).mono ?_
  rintro e w10 ⟨rfl, hB⟩
  have hb10 : Below w8.heap.size w8 w10 := below_then (below_alloc (Below.refl _ _) _) (by simp) hB
  have HT10 := Lib.hid (PtAt.mk (blk_below (blk_new w8 (.cells #[.int .i64 p.f0, .int .u64 p.f1, .int .u64 p.f2] 24)) hB))
  have HP10 := Lib.hid (HP8.out.below hb10)
  have HQ10 := Lib.hid (HQ8.out.below hb10)
  have HB10 := Lib.hid (below_then HB8.out HB8.out.size hb10)
  have HI10 := Lib.hid (HI8.out.below hb10)
  have HR10 := Lib.hid (Kd.R_below (Kd.R_elderB HR8.out w8.heap.size (Nat.le_refl _)) hb10)
  have HL := Lib.hid (And.intro l1 (And.intro l2 (And.intro HI8.out.lt HB8.out.size)))
  clear c0 c1 c2 d0 d1 d2 l1 l2 hb10 hB HP8 HQ8 HI8 HR8
  obtain ⟨gw, hgw⟩ : ∃ k, k = w8.heap.size := ⟨_, rfl⟩
  rw [← hgw] at HT10 HR10 HL
  have HGW := Lib.hid (show gw ≠ gp ∧ gw ≠ gq ∧ gw ≠ g ∧ gw ≠ b ∧ w.heap.size ≤ gw from by have q1_ := HL.out; omega)
  rw [← hgw]
  clear hgw
  have d0 := HQ10.out.c0
  have d1 := HQ10.out.c1
  have d2 := HQ10.out.c2
  have t0 := HT10.out.c0
  have t1 := HT10.out.c1
  have t2 := HT10.out.c2
  have u0 := blk_frozen HT10.out.blk 0
  have u1 := blk_frozen HT10.out.blk 1
  have u2 := blk_frozen HT10.out.blk 2
  go_upto_if 50 with fail
  go_cut [11] from 12 (fun s11 Y => s11 = .pointer (some ⟨gw, 0, none⟩) ∧ Aside0 (PtAt Y gp p ∧ PtAt Y gw h7.p ∧ Is Y g b [(⟨blk, idn, p.f0⟩, h7)] 3 ∧ Below w.heap.size w Y ∧ Kd.R k24 24 Y w7.heap.size (fun k => True ∧ k ≠ gw) v (if x.f0 = 9223372036854775807 then [] else [h7.p])))
  case first =>
    cases wb with
    | true =>
      rw [if_pos rfl] at HH7
      go_wp2_with fail
      go_meet
      case rel =>
        obtain ⟨Y, hY⟩ : ∃ Y : World, Y = ((w10.setCell ⟨gw, 0, none⟩ (.int .i64 x.f0)).setCell ⟨gw, 1, none⟩ (.int .u64 x.f1)).setCell ⟨gw, 2, none⟩ (.int .u64 x.f2) := ⟨_, rfl⟩
        rw [← hY]
        have hkeep : ∀ k, k ≠ gw → Y.heap[k]? = w10.heap[k]? := fun k hk => by
          rw [hY]
          exact (Below.heap_setCell _ _ _ _ hk).trans ((Below.heap_setCell _ _ _ _ hk).trans (Below.heap_setCell _ _ _ _ hk))
        have hg := HGW.out
        refine ⟨rfl, ⟨⟨(hkeep _ hg.1.symm).trans HP10.out.blk⟩, ?_, ⟨(hkeep _ hg.2.2.1.symm).trans HI10.out.1, HI10.out.2.move (hkeep _ hg.2.2.2.1.symm)⟩, ?_, Kd.R_step HR10.out (fun k hk _ => hkeep k hk.2)⟩⟩
        · rw [HH7.out, hY]; exact ⟨blk_set (blk_set (blk_set HT10.out.blk 0 _) 1 _) 2 _⟩
        · rw [hY]; exact below_set (below_set (below_set HB10.out hg.2.2.2.2) hg.2.2.2.2) hg.2.2.2.2
    | false =>
      rw [if_neg (by simp)] at HH7
      go_wp2_with fail
      go_meet
      case rel => exact ⟨rfl, ⟨HP10.out, by rw [HH7.out]; exact HT10.out, HI10.out, HB10.out, HR10.out⟩⟩
  case rest =>
    obtain ⟨rfl, HC⟩ := hcut
    clear HP10 HT10 HI10 HB10 HR10 d0 d1 d2 t0 t1 t2 u0 u1 u2 HQ10
    have c0 := HC.out.1.c0
    have c1 := HC.out.1.c1
    have c2 := HC.out.1.c2
    have t0 := HC.out.2.1.c0
    have t1 := HC.out.2.1.c1
    have t2 := HC.out.2.1.c2
    rw [← HX.out.1] at HC
    have HID := Lib.hid (show Is wc.drew g b [(⟨blk, idn, p.f0⟩, h7)] 3 from HC.out.2.2.1)
    have HLN := Lib.hid (len_one _ g b _ _ 3 HID.out)
    have HWR := Lib.hid (write_same _ g b p.f0 _ 3 4 blk idn HID.out (by omega) (by omega) (by omega) p rfl HK.out)
    have HBY := Lib.hid (below_drew HC.out.2.2.2.1)
    have HRY := Lib.hid HC.out.2.2.2.2
    clear HC
    rw [if_pos HMM.out] at HRY
    have hmb : (p.f0 == 9223372036854775807) = true := by simpa using HMM.out
    obtain ⟨A8, c8, rfl⟩ := own_none HRY.out
    clear HRY HMM HX HH7 HW HGW HL
    go_wp2_with fail
    refine start_ (n := 34) (S := fun w' => w'.cell? ⟨gp, 0, none⟩ = some (.int .i64 p.f0) ∧ w'.cell? ⟨gp, 1, none⟩ = some (.int .u64 p.f1) ∧ w'.cell? ⟨gp, 2, none⟩ = some (.int .u64 p.f2)) (ds := [30]) #[false, false, false, false, false, false, false, false, false, false, false, false, false, false, false, false, false, false, false, false, false, false, false, false, false, false, false, false, false, false, false, false, false, false] (by kernel_rfl) rfl rfl ⟨c0, c1, c2⟩ (fun hHeld => ?_)
    refine with_tabW Twice_max.tab12 Twice_max.bits12 (fun HT_ HW_ => ?_)
    refine pure_ (i := 0) (N := some 52) (v := ?_) (a' := ?_) #[true, false, false, false, false, false, false, false, false, false, false, false, false, false, false, false, false, false, false, false, false, false, false, false, false, false, false, false, false, false, false, false, false, false] rfl rfl (any_of HT_.out (by kernel_rfl)) (fun _ _ _ h => h) (Or.inl ⟨by rfl, ?_⟩) ?_ ?_
    rotate_left
    · intro w'
      go_simp
      with_reducible rfl
    rotate_left
    · simp only [Act.put, List.setIfInBounds_toArray, List.set_cons_zero, List.set_cons_succ, i64_w, i32_w]
      rfl
    refine one_ (i := 1) (N := some 53) #[true, true, false, false, false, false, false, false, false, false, false, false, false, false, false, false, false, false, false, false, false, false, false, false, false, false, false, false, false, false, false, false, false, false] rfl rfl (one_of HT_.out (by kernel_rfl)) (by decide) (fun K hK => ?_)
    refine goes_ Try.func10 (by kernel_rfl) rfl #[.pointer (some ⟨g, 0, none⟩)] (by rfl) rfl rfl (by simp only [List.map_toArray, List.map_cons, List.map_nil]; rfl) ?_
    with_reducible refine (HLN.out).mono ?_
    rintro e w' ⟨rfl, rfl⟩
    refine ⟨_, rfl, ?_⟩
    refine hK.out _ _ ⟨c0, c1, c2⟩ (fun hHeld => ?_)
    clear hK K
    refine norm_ (a' := ?_) ?_ ?_
    rotate_left
    · show Act.put _ (some 53) _ = _
      simp only [Act.put, List.setIfInBounds_toArray, List.set_cons_zero, List.set_cons_succ, i64_w, i32_w]
      rfl
    refine pure_ (i := 2) (N := some 54) (v := ?_) (a' := ?_) #[true, true, true, false, false, false, false, false, false, false, false, false, false, false, false, false, false, false, false, false, false, false, false, false, false, false, false, false, false, false, false, false, false, false] rfl rfl (any_of HT_.out (by kernel_rfl)) (fun _ _ _ h => h) (Or.inl ⟨by rfl, ?_⟩) ?_ ?_
    rotate_left
    · intro w'
      go_simp
      with_reducible rfl
    rotate_left
    · simp only [Act.put, List.setIfInBounds_toArray, List.set_cons_zero, List.set_cons_succ, i64_w, i32_w]
      rfl
    refine pure_ (i := 3) (N := some 55) (v := ?_) (a' := ?_) #[true, true, true, true, false, false, false, false, false, false, false, false, false, false, false, false, false, false, false, false, false, false, false, false, false, false, false, false, false, false, false, false, false, false] rfl rfl (any_of HT_.out (by kernel_rfl)) (fun _ _ _ h => h) (Or.inl ⟨by rfl, ?_⟩) ?_ ?_
    rotate_left
    · intro w'
      go_simp
      with_reducible rfl
    rotate_left
    · simp only [Act.put, List.setIfInBounds_toArray, List.set_cons_zero, List.set_cons_succ, i64_w, i32_w]
      rfl
    refine pure_ (i := 4) (N := some 56) (v := ?_) (a' := ?_) #[true, true, true, true, true, false, false, false, false, false, false, false, false, false, false, false, false, false, false, false, false, false, false, false, false, false, false, false, false, false, false, false, false, false] rfl rfl (any_of HT_.out (by kernel_rfl)) (fun _ _ _ h => h) (Or.inl ⟨by rfl, ?_⟩) ?_ ?_
    rotate_left
    · intro w'
      go_simp
      with_reducible rfl
    rotate_left
    · simp only [Act.put, List.setIfInBounds_toArray, List.set_cons_zero, List.set_cons_succ, i64_w, i32_w]
      rfl
    refine take_ (i := 5) (N := some 57) (v := ?_) (a' := ?_) #[true, true, true, true, true, true, false, false, false, false, false, false, false, false, false, false, false, false, false, false, false, false, false, false, false, false, false, false, false, false, false, false, false, false] rfl rfl (take_ofW HT_.out HW_.out (by kernel_rfl)) (fun _ _ _ h => h) (Or.inl ⟨by rfl, ?_⟩) hHeld ?_ ?_
    rotate_left
    · rintro w' ⟨s0, s1, s2⟩
      go_simp
      with_reducible rfl
    rotate_left
    · simp only [Act.put, List.setIfInBounds_toArray, List.set_cons_zero, List.set_cons_succ, i64_w, i32_w]
      rfl
    refine pure_ (i := 6) (N := some 58) (v := ?_) (a' := ?_) #[true, true, true, true, true, true, true, false, false, false, false, false, false, false, false, false, false, false, false, false, false, false, false, false, false, false, false, false, false, false, false, false, false, false] rfl rfl (any_of HT_.out (by kernel_rfl)) (fun _ _ _ h => h) (Or.inl ⟨by rfl, ?_⟩) ?_ ?_
    rotate_left
    · intro w'
      go_simp
      with_reducible rfl
    rotate_left
    · simp only [Act.put, List.setIfInBounds_toArray, List.set_cons_zero, List.set_cons_succ, i64_w, i32_w]
      rfl
    refine pure_ (i := 7) (N := some 59) (v := ?_) (a' := ?_) #[true, true, true, true, true, true, true, true, false, false, false, false, false, false, false, false, false, false, false, false, false, false, false, false, false, false, false, false, false, false, false, false, false, false] rfl rfl (any_of HT_.out (by kernel_rfl)) (fun _ _ _ h => h) (Or.inl ⟨by rfl, ?_⟩) ?_ ?_
    rotate_left
    · intro w'
      go_simp
      with_reducible rfl
    rotate_left
    · simp only [Act.put, List.setIfInBounds_toArray, List.set_cons_zero, List.set_cons_succ, i64_w, i32_w]
      rfl
    refine pure_ (i := 8) (N := some 60) (v := ?_) (a' := ?_) #[true, true, true, true, true, true, true, true, true, false, false, false, false, false, false, false, false, false, false, false, false, false, false, false, false, false, false, false, false, false, false, false, false, false] rfl rfl (any_of HT_.out (by kernel_rfl)) (fun _ _ _ h => h) (Or.inl ⟨by rfl, ?_⟩) ?_ ?_
    rotate_left
    · intro w'
      go_simp
      with_reducible rfl
    rotate_left
    · simp only [Act.put, List.setIfInBounds_toArray, List.set_cons_zero, List.set_cons_succ, i64_w, i32_w]
      rfl
    refine pure_ (i := 9) (N := some 61) (v := ?_) (a' := ?_) #[true, true, true, true, true, true, true, true, true, true, false, false, false, false, false, false, false, false, false, false, false, false, false, false, false, false, false, false, false, false, false, false, false, false] rfl rfl (any_of HT_.out (by kernel_rfl)) (fun _ _ _ h => h) (Or.inl ⟨by rfl, ?_⟩) ?_ ?_
    rotate_left
    · intro w'
      go_simp
      with_reducible rfl
    rotate_left
    · simp only [Act.put, List.setIfInBounds_toArray, List.set_cons_zero, List.set_cons_succ, i64_w, i32_w]
      rfl
    refine pure_ (i := 10) (N := some 62) (v := ?_) (a' := ?_) #[true, true, true, true, true, true, true, true, true, true, true, false, false, false, false, false, false, false, false, false, false, false, false, false, false, false, false, false, false, false, false, false, false, false] rfl rfl (any_of HT_.out (by kernel_rfl)) (fun _ _ _ h => h) (Or.inl ⟨by rfl, ?_⟩) ?_ ?_
    rotate_left
    · intro w'
      go_simp
      with_reducible rfl
    rotate_left
    · simp only [Act.put, List.setIfInBounds_toArray, List.set_cons_zero, List.set_cons_succ, i64_w, i32_w]
      rfl
    refine pure_ (i := 11) (N := some 63) (v := ?_) (a' := ?_) #[true, true, true, true, true, true, true, true, true, true, true, true, false, false, false, false, false, false, false, false, false, false, false, false, false, false, false, false, false, false, false, false, false, false] rfl rfl (any_of HT_.out (by kernel_rfl)) (fun _ _ _ h => h) (Or.inl ⟨by rfl, ?_⟩) ?_ ?_
    rotate_left
    · intro w'
      go_simp
      with_reducible rfl
    rotate_left
    · simp only [Act.put, List.setIfInBounds_toArray, List.set_cons_zero, List.set_cons_succ, i64_w, i32_w]
      rfl
    refine pure_ (i := 12) (N := some 64) (v := ?_) (a' := ?_) #[true, true, true, true, true, true, true, true, true, true, true, true, true, false, false, false, false, false, false, false, false, false, false, false, false, false, false, false, false, false, false, false, false, false] rfl rfl (any_of HT_.out (by kernel_rfl)) (fun _ _ _ h => h) (Or.inl ⟨by rfl, ?_⟩) ?_ ?_
    rotate_left
    · intro w'
      go_simp
      with_reducible rfl
    rotate_left
    · simp only [Act.put, List.setIfInBounds_toArray, List.set_cons_zero, List.set_cons_succ, i64_w, i32_w]
      rfl
    refine pure_ (i := 13) (N := some 65) (v := undef) (a' := ?_) #[true, true, true, true, true, true, true, true, true, true, true, true, true, true, false, false, false, false, false, false, false, false, false, false, false, false, false, false, false, false, false, false, false, false] rfl rfl (any_of HT_.out (by kernel_rfl)) (fun _ _ _ h => h) (Or.inr ⟨by rfl, rfl⟩) ?_ ?_
    rotate_left
    · simp only [Act.put, List.setIfInBounds_toArray, List.set_cons_zero, List.set_cons_succ, i64_w, i32_w]
      rfl
    refine pure_ (i := 14) (N := some 66) (v := undef) (a' := ?_) #[true, true, true, true, true, true, true, true, true, true, true, true, true, true, true, false, false, false, false, false, false, false, false, false, false, false, false, false, false, false, false, false, false, false] rfl rfl (any_of HT_.out (by kernel_rfl)) (fun _ _ _ h => h) (Or.inr ⟨by rfl, rfl⟩) ?_ ?_
    rotate_left
    · simp only [Act.put, List.setIfInBounds_toArray, List.set_cons_zero, List.set_cons_succ, i64_w, i32_w]
      rfl
    refine pure_ (i := 15) (N := some 67) (v := undef) (a' := ?_) #[true, true, true, true, true, true, true, true, true, true, true, true, true, true, true, true, false, false, false, false, false, false, false, false, false, false, false, false, false, false, false, false, false, false] rfl rfl (any_of HT_.out (by kernel_rfl)) (fun _ _ _ h => h) (Or.inr ⟨by rfl, rfl⟩) ?_ ?_
    rotate_left
    · simp only [Act.put, List.setIfInBounds_toArray, List.set_cons_zero, List.set_cons_succ, i64_w, i32_w]
      rfl
    refine pure_ (i := 16) (N := some 68) (v := undef) (a' := ?_) #[true, true, true, true, true, true, true, true, true, true, true, true, true, true, true, true, true, false, false, false, false, false, false, false, false, false, false, false, false, false, false, false, false, false] rfl rfl (any_of HT_.out (by kernel_rfl)) (fun _ _ _ h => h) (Or.inr ⟨by rfl, rfl⟩) ?_ ?_
    rotate_left
    · simp only [Act.put, List.setIfInBounds_toArray, List.set_cons_zero, List.set_cons_succ, i64_w, i32_w]
      rfl
    refine pure_ (i := 17) (N := some 69) (v := undef) (a' := ?_) #[true, true, true, true, true, true, true, true, true, true, true, true, true, true, true, true, true, true, false, false, false, false, false, false, false, false, false, false, false, false, false, false, false, false] rfl rfl (any_of HT_.out (by kernel_rfl)) (fun _ _ _ h => h) (Or.inr ⟨by rfl, rfl⟩) ?_ ?_
    rotate_left
    · simp only [Act.put, List.setIfInBounds_toArray, List.set_cons_zero, List.set_cons_succ, i64_w, i32_w]
      rfl
    refine pure_ (i := 18) (N := some 70) (v := undef) (a' := ?_) #[true, true, true, true, true, true, true, true, true, true, true, true, true, true, true, true, true, true, true, false, false, false, false, false, false, false, false, false, false, false, false, false, false, false] rfl rfl (any_of HT_.out (by kernel_rfl)) (fun _ _ _ h => h) (Or.inr ⟨by rfl, rfl⟩) ?_ ?_
    rotate_left
    · simp only [Act.put, List.setIfInBounds_toArray, List.set_cons_zero, List.set_cons_succ, i64_w, i32_w]
      rfl
    refine pure_ (i := 19) (N := some 71) (v := undef) (a' := ?_) #[true, true, true, true, true, true, true, true, true, true, true, true, true, true, true, true, true, true, true, true, false, false, false, false, false, false, false, false, false, false, false, false, false, false] rfl rfl (any_of HT_.out (by kernel_rfl)) (fun _ _ _ h => h) (Or.inr ⟨by rfl, rfl⟩) ?_ ?_
    rotate_left
    · simp only [Act.put, List.setIfInBounds_toArray, List.set_cons_zero, List.set_cons_succ, i64_w, i32_w]
      rfl
    refine pure_ (i := 20) (N := some 72) (v := undef) (a' := ?_) #[true, true, true, true, true, true, true, true, true, true, true, true, true, true, true, true, true, true, true, true, true, false, false, false, false, false, false, false, false, false, false, false, false, false] rfl rfl (any_of HT_.out (by kernel_rfl)) (fun _ _ _ h => h) (Or.inr ⟨by rfl, rfl⟩) ?_ ?_
    rotate_left
    · simp only [Act.put, List.setIfInBounds_toArray, List.set_cons_zero, List.set_cons_succ, i64_w, i32_w]
      rfl
    refine pure_ (i := 21) (N := some 73) (v := undef) (a' := ?_) #[true, true, true, true, true, true, true, true, true, true, true, true, true, true, true, true, true, true, true, true, true, true, false, false, false, false, false, false, false, false, false, false, false, false] rfl rfl (any_of HT_.out (by kernel_rfl)) (fun _ _ _ h => h) (Or.inr ⟨by rfl, rfl⟩) ?_ ?_
    rotate_left
    · simp only [Act.put, List.setIfInBounds_toArray, List.set_cons_zero, List.set_cons_succ, i64_w, i32_w]
      rfl
    refine pure_ (i := 22) (N := some 74) (v := undef) (a' := ?_) #[true, true, true, true, true, true, true, true, true, true, true, true, true, true, true, true, true, true, true, true, true, true, true, false, false, false, false, false, false, false, false, false, false, false] rfl rfl (any_of HT_.out (by kernel_rfl)) (fun _ _ _ h => h) (Or.inr ⟨by rfl, rfl⟩) ?_ ?_
    rotate_left
    · simp only [Act.put, List.setIfInBounds_toArray, List.set_cons_zero, List.set_cons_succ, i64_w, i32_w]
      rfl
    refine pure_ (i := 23) (N := some 75) (v := ?_) (a' := ?_) #[true, true, true, true, true, true, true, true, true, true, true, true, true, true, true, true, true, true, true, true, true, true, true, true, false, false, false, false, false, false, false, false, false, false] rfl rfl (any_of HT_.out (by kernel_rfl)) (fun _ _ _ h => h) (Or.inl ⟨by rfl, ?_⟩) ?_ ?_
    rotate_left
    · intro w'
      go_simp
      with_reducible rfl
    rotate_left
    · simp only [Act.put, List.setIfInBounds_toArray, List.set_cons_zero, List.set_cons_succ, i64_w, i32_w]
      rfl
    refine pure_ (i := 24) (N := some 76) (v := ?_) (a' := ?_) #[true, true, true, true, true, true, true, true, true, true, true, true, true, true, true, true, true, true, true, true, true, true, true, true, true, false, false, false, false, false, false, false, false, false] rfl rfl (any_of HT_.out (by kernel_rfl)) (fun _ _ _ h => h) (Or.inl ⟨by rfl, ?_⟩) ?_ ?_
    rotate_left
    · intro w'
      go_simp
      with_reducible rfl
    rotate_left
    · simp only [Act.put, List.setIfInBounds_toArray, List.set_cons_zero, List.set_cons_succ, i64_w, i32_w]
      rfl
    refine pure_ (i := 25) (N := some 77) (v := ?_) (a' := ?_) #[true, true, true, true, true, true, true, true, true, true, true, true, true, true, true, true, true, true, true, true, true, true, true, true, true, true, false, false, false, false, false, false, false, false] rfl rfl (any_of HT_.out (by kernel_rfl)) (fun _ _ _ h => h) (Or.inl ⟨by rfl, ?_⟩) ?_ ?_
    rotate_left
    · intro w'
      go_simp
      with_reducible rfl
    rotate_left
    · simp only [Act.put, List.setIfInBounds_toArray, List.set_cons_zero, List.set_cons_succ, i64_w, i32_w]
      rfl
    refine pure_ (i := 26) (N := some 78) (v := ?_) (a' := ?_) #[true, true, true, true, true, true, true, true, true, true, true, true, true, true, true, true, true, true, true, true, true, true, true, true, true, true, true, false, false, false, false, false, false, false] rfl rfl (any_of HT_.out (by kernel_rfl)) (fun _ _ _ h => h) (Or.inl ⟨by rfl, ?_⟩) ?_ ?_
    rotate_left
    · intro w'
      go_simp
      with_reducible rfl
    rotate_left
    · simp only [Act.put, List.setIfInBounds_toArray, List.set_cons_zero, List.set_cons_succ, i64_w, i32_w]
      rfl
    refine pure_ (i := 27) (N := some 79) (v := ?_) (a' := ?_) #[true, true, true, true, true, true, true, true, true, true, true, true, true, true, true, true, true, true, true, true, true, true, true, true, true, true, true, true, false, false, false, false, false, false] rfl rfl (any_of HT_.out (by kernel_rfl)) (fun _ _ _ h => h) (Or.inl ⟨by rfl, ?_⟩) ?_ ?_
    rotate_left
    · intro w'
      go_simp
      with_reducible rfl
    rotate_left
    · simp only [Act.put, List.setIfInBounds_toArray, List.set_cons_zero, List.set_cons_succ, i64_w, i32_w]
      rfl
    refine pure_ (i := 28) (N := some 80) (v := ?_) (a' := ?_) #[true, true, true, true, true, true, true, true, true, true, true, true, true, true, true, true, true, true, true, true, true, true, true, true, true, true, true, true, true, false, false, false, false, false] rfl rfl (any_of HT_.out (by kernel_rfl)) (fun _ _ _ h => h) (Or.inl ⟨by rfl, ?_⟩) ?_ ?_
    rotate_left
    · intro w'
      go_simp
      with_reducible rfl
    rotate_left
    · simp only [Act.put, List.setIfInBounds_toArray, List.set_cons_zero, List.set_cons_succ, i64_w, i32_w]
      rfl
    refine take_ (i := 29) (N := some 81) (v := ?_) (a' := ?_) #[true, true, true, true, true, true, true, true, true, true, true, true, true, true, true, true, true, true, true, true, true, true, true, true, true, true, true, true, true, true, false, false, false, false] rfl rfl (take_ofW HT_.out HW_.out (by kernel_rfl)) (fun _ _ _ h => h) (Or.inl ⟨by rfl, ?_⟩) hHeld ?_ ?_
    rotate_left
    · rintro w' ⟨s0, s1, s2⟩
      go_simp
      with_reducible rfl
    rotate_left
    · simp only [Act.put, List.setIfInBounds_toArray, List.set_cons_zero, List.set_cons_succ, i64_w, i32_w]
      rfl
    refine last_ (i := 30) (N := some 82) #[true, true, true, true, true, true, true, true, true, true, true, true, true, true, true, true, true, true, true, true, true, true, true, true, true, true, true, true, true, true, true, false, false, false] rfl rfl (one_of HT_.out (by kernel_rfl)) (by decide) (fun K hK => ?_)
    refine goes_ Try.func9 (by kernel_rfl) rfl #[.pointer (some ⟨g, 0, none⟩), .int .i64 blk, .string idn, .agg #[.int .i64 p.f0, .int .u64 p.f1, .int .u64 p.f2]] (by rfl) rfl rfl (by simp only [List.map_toArray, List.map_cons, List.map_nil]; rfl) ?_
    with_reducible refine (HWR.out).mono ?_
    rintro e w12 ⟨rfl, _, hF9⟩
    refine ⟨_, rfl, ?_⟩
    have HF9 := Lib.hid hF9
    clear hF9
    refine hK.out _ _ ?_
    clear hK K
    refine norm_ (a' := ?_) ?_ ?_
    rotate_left
    · show Act.put _ (some 82) _ = _
      simp only [Act.put, List.setIfInBounds_toArray, List.set_cons_zero, List.set_cons_succ, i64_w, i32_w]
      rfl
    refine pure_ (i := 31) (N := some 83) (v := ?_) (a' := ?_) #[true, true, true, true, true, true, true, true, true, true, true, true, true, true, true, true, true, true, true, true, true, true, true, true, true, true, true, true, true, true, true, true, false, false] rfl rfl (any_of HT_.out (by kernel_rfl)) (fun _ _ _ h => h) (Or.inl ⟨by rfl, ?_⟩) ?_ ?_
    rotate_left
    · intro w'
      go_simp
      with_reducible rfl
    rotate_left
    · simp only [Act.put, List.setIfInBounds_toArray, List.set_cons_zero, List.set_cons_succ, i64_w, i32_w]
      rfl
    refine pure_ (i := 32) (N := some 84) (v := ?_) (a' := ?_) #[true, true, true, true, true, true, true, true, true, true, true, true, true, true, true, true, true, true, true, true, true, true, true, true, true, true, true, true, true, true, true, true, true, false] rfl rfl (any_of HT_.out (by kernel_rfl)) (fun _ _ _ h => h) (Or.inl ⟨by rfl, ?_⟩) ?_ ?_
    rotate_left
    · intro w'
      go_simp
      with_reducible rfl
    rotate_left
    · simp only [Act.put, List.setIfInBounds_toArray, List.set_cons_zero, List.set_cons_succ, i64_w, i32_w]
      rfl
    refine pure_ (i := 33) (N := some 8) (v := ?_) (a' := ?_) #[true, true, true, true, true, true, true, true, true, true, true, true, true, true, true, true, true, true, true, true, true, true, true, true, true, true, true, true, true, true, true, true, true, true] rfl rfl (any_of HT_.out (by kernel_rfl)) (fun _ _ _ h => h) (Or.inl ⟨by rfl, ?_⟩) ?_ ?_
    rotate_left
    · intro w'
      go_simp
      with_reducible rfl
    rotate_left
    · simp only [Act.put, List.setIfInBounds_toArray, List.set_cons_zero, List.set_cons_succ, i64_w, i32_w]
      rfl
    refine done_ (done_of HT_.out (by kernel_rfl)) ?_
    go_wp2
    go_ret
    exact ⟨rfl, Fr.below HBY.out HF9.out HBY.out.size HN.out.2.1 HN.out.2.2.1⟩
def Twice_low.T12 : Bool × List (List Nat × List Nat) := (true, [([], []), ([0], [0]), ([1], [1]), ([2, 1], [2]), ([3], [3]), ([4, 3], [3, 4]), ([5, 3], [3, 5]), ([6, 3, 3], [3, 6]), ([7], [7]), ([8, 7], [7, 8]), ([9, 7], [7, 9]), ([7, 10, 3], [3, 7, 10]), ([11, 7, 3], [3, 11]), ([12], [12]), ([13, 12], [12, 13]), ([14, 12], [12, 14]), ([15, 12, 12], [12, 15]), ([16], [16]), ([17, 16], [16, 17]), ([18, 16], [16, 18]), ([16], [16]), ([19, 20, 16], [16, 19, 20]), ([16, 21, 12], [12, 16, 21]), ([12, 22, 3], [3, 12, 22]), ([3, 23], [3, 23]), ([24, 16], [24]), ([25], [25]), ([25], [25]), ([25], [25]), ([25], [25]), ([26, 27, 28, 29, 25, 25], [25, 26, 27, 28, 29]), ([30, 25], [25, 30]), ([25, 31], [25, 31]), ([32, 30, 0, 1, 2, 3, 4, 5, 6, 7, 8, 9, 10, 11, 12, 13, 14, 15, 16, 17, 18, 19, 20, 21, 22, 23, 24, 25, 26, 27, 28, 29, 30, 31, 32], [32])])
def Twice_low.B12 : List Nat := [0, 1, 3, 7, 15, 31, 63, 127, 255, 511, 1023, 2047, 4095, 8191, 16383, 32767, 65535, 131071, 262143, 524287, 131071, 2097151, 4194303, 8388607, 16777215, 33554431, 67108863, 67108863, 67108863, 67108863, 1073741823, 2147483647, 4294967295, 8589934591]
theorem Twice_low.tab12 : rtab .any (opsOf Try.f3 12) = Twice_low.T12 := by kernel_rfl
theorem Twice_low.bits12 : waitsOk Twice_low.T12.2 Twice_low.B12 = true := by kernel_rfl
set_option maxHeartbeats 8000000 in
set_option maxRecDepth 100000 in
theorem twice_low (w : World) (blk : Int) (idn : ByteArray) (p q : Pt) (hk : OkP ⟨blk, idn, p.f0⟩) (hs : idn.size ≤ 4096) (hm : ¬ p.f0 = 9223372036854775807) :
    Calls Try.prog 3 #[.int .i64 blk, .string idn, .agg #[.int .i64 p.f0, .int .u64 p.f1, .int .u64 p.f2], .agg #[.int .i64 q.f0, .int .u64 q.f1, .int .u64 q.f2]] w fun e w' => e = .returned (.bool true) ∧ Below w.heap.size w w' := by
  have hsz : ¬ ((idn.size : Int) > 4096) := by omega
  obtain ⟨x, hx0, hx1, hx2⟩ : ∃ x : Pt, p.f0 = x.f0 ∧ q.f1 = x.f1 ∧ q.f2 = x.f2 := ⟨⟨p.f0, q.f1, q.f2⟩, rfl, rfl, rfl⟩
  have HX := Lib.hid (And.intro hx0 (And.intro hx1 hx2))
  clear hx0 hx1 hx2
  have HK := Lib.hid hk
  have HMM := Lib.hid hm
  clear hk hm
  go_enter Try.func3, Try.ntmps3
  go_wp2_with (first
    | ((with_reducible refine gate_dst (N := 6) rfl ?_); refine box_event rfl (N := 6) rfl (cs := #[.int .i64 p.f0, .int .u64 p.f1, .int .u64 p.f2]) (t := 24) ?hr ?_; (case hr => first | (go_simp; done) | (go_simp; rfl)); intro gp hgp w1 hbox hb1; have HP1 := Lib.hid (And.intro hgp (And.intro (PtAt.mk hbox) hb1)); clear hgp hbox hb1)
    | ((with_reducible refine gate_dst (N := 7) rfl ?_); refine box_event rfl (N := 7) rfl (cs := #[.int .i64 q.f0, .int .u64 q.f1, .int .u64 q.f2]) (t := 24) ?hr ?_; (case hr => first | (go_simp; done) | (go_simp; rfl)); intro gq hgq w2 hbox hb1; have HQ1 := Lib.hid (And.intro hgq (And.intro (PtAt.mk hbox) hb1)); clear hgq hbox hb1)
    | fail)
  with_reducible refine (new_any _).mono ?_
  rintro e w3 ⟨g, b, rfl, hgg, hgb, hI0, hB3⟩
  obtain ⟨hgp, hP1, hb1⟩ := HP1.out
  obtain ⟨hgq, hQ2, hb2⟩ := HQ1.out
  have hl1 := hP1.lt
  have hl2 := hQ2.lt
  have hs1 := hb1.size
  have hs2 := hb2.size
  have HN := Lib.hid (show (gp ≠ g ∧ gp ≠ b ∧ gq ≠ g ∧ gq ≠ b ∧ gp ≠ gq) ∧ w.heap.size ≤ g ∧ w.heap.size ≤ b ∧ w.heap.size ≤ gp ∧ w.heap.size ≤ gq by omega)
  have HP3 := Lib.hid ((hP1.below hb2).below hB3)
  have HQ3 := Lib.hid (hQ2.below hB3)
  have HB3 := Lib.hid (below_then (below_then hb1 hb1.size hb2) (by omega) hB3)
  have HI3 := Lib.hid hI0
  clear hgg hgb hI0 hB3 hgp hP1 hb1 hgq hQ2 hb2 hl1 hl2 hs1 hs2 HP1 HQ1
  have c0 := HP3.out.c0
  have c1 := HP3.out.c1
  have c2 := HP3.out.c2
  go_wp2_with fail
  with_reducible refine (write_first _ g b HI3.out blk idn p HK.out).mono ?_
  rintro e w4 ⟨rfl, hI, hF⟩
  have HP4 := Lib.hid (HP3.out.fr hF HN.out.1.1 HN.out.1.2.1)
  have HQ4 := Lib.hid (HQ3.out.fr hF HN.out.1.2.2.1 HN.out.1.2.2.2.1)
  have HB4 := Lib.hid (Fr.below HB3.out hF HB3.out.size HN.out.2.1 HN.out.2.2.1)
  have HI4 := Lib.hid hI
  clear c0 c1 c2 hI hF HP3 HQ3 HB3 HI3
  have c0 := HP4.out.c0
  have c1 := HP4.out.c1
  have c2 := HP4.out.c2
  go_wp2_with fail
  with_reducible refine (write_same _ g b p.f0 _ 1 2 blk idn HI4.out (by omega) (by omega) (by omega) p rfl HK.out).mono ?_
  rintro e w5 ⟨rfl, ⟨h5, hI, hh⟩, hF⟩
  rw [if_neg (by rw [wins_self]; simp)] at hh
  have HP5 := Lib.hid (HP4.out.fr hF HN.out.1.1 HN.out.1.2.1)
  have HQ5 := Lib.hid (HQ4.out.fr hF HN.out.1.2.2.1 HN.out.1.2.2.2.1)
  have HB5 := Lib.hid (Fr.below HB4.out hF HB4.out.size HN.out.2.1 HN.out.2.2.1)
  have HI5 := Lib.hid hI
  have HH5 := Lib.hid hh
  clear c0 c1 c2 hI hF hh HP4 HQ4 HB4 HI4
  go_wp2_with fail
  with_reducible refine (len_calls _ g b _ 2 HI5.out).mono ?_
  rintro e w6 ⟨rfl, rfl⟩
  have c0 := HP5.out.c0
  have c1 := HP5.out.c1
  have c2 := HP5.out.c2
  have d0 := HQ5.out.c0
  have d1 := HQ5.out.c1
  have d2 := HQ5.out.c2
  have df := blk_frozen HQ5.out.blk 0
  have hpq := HN.out.1.2.2.2.2
  have hqp := hpq.symm
  go_wp2_with fail
  obtain ⟨X, hX⟩ : ∃ X : World, X = w5.setCell ⟨gq, 0, none⟩ (.int .i64 p.f0) := ⟨_, rfl⟩
  rw [← hX]
  have hn := HN.out.1
  have HIX := Lib.hid (show Is X g b [(⟨blk, idn, p.f0⟩, h5)] 2 from by rw [hX]; exact ⟨(Below.heap_setCell _ _ _ _ hn.2.2.1.symm).trans HI5.out.1, HI5.out.2.move (Below.heap_setCell _ _ _ _ hn.2.2.2.1.symm)⟩)
  have HPX := Lib.hid (show PtAt X gp p from by rw [hX]; exact ⟨(Below.heap_setCell _ _ _ _ hpq).trans HP5.out.blk⟩)
  have HQX := Lib.hid (show PtAt X gq x from by
    rw [hX]
    refine ⟨(blk_set HQ5.out.blk 0 _).trans ?_⟩
    rw [← HX.out.2.1, ← HX.out.2.2, HX.out.1]
    rfl)
  have HBX := Lib.hid (show Below w.heap.size w X from by rw [hX]; exact below_set HB5.out HN.out.2.2.2.2)
  clear hX c0 c1 c2 d0 d1 d2 df hpq hqp hn HP5 HQ5 HB5 HI5
  rw [HX.out.1, HX.out.2.1, HX.out.2.2]
  with_reducible refine (write_same _ g b p.f0 _ 2 3 blk idn HIX.out (by omega) (by omega) (by omega) x HX.out.1.symm HK.out).mono ?_
  rintro e w7 ⟨rfl, ⟨h7, hI, hh⟩, hF⟩
  rw [HH5.out] at hh
  have HP7 := Lib.hid (HPX.out.fr hF HN.out.1.1 HN.out.1.2.1)
  have HQ7 := Lib.hid (HQX.out.fr hF HN.out.1.2.2.1 HN.out.1.2.2.2.1)
  have HB7 := Lib.hid (Fr.below HBX.out hF HBX.out.size HN.out.2.1 HN.out.2.2.1)
  have HI7 := Lib.hid hI
  have HH7 := Lib.hid hh
  clear hI hF hh HPX HQX HBX HIX
  go_wp2_with fail
  with_reducible refine (read_calls _ g b _ 3 HI7.out idn (-9223372036854775808) 9223372036854775807 (by simp)).mono ?_
  rintro e w8 ⟨v, rfl, hR, hB⟩
  have hL : Vw.cut (Vw.view (pts idn [(⟨blk, idn, p.f0⟩, h7)])) (-9223372036854775808) 9223372036854775807 = if x.f0 = 9223372036854775807 then [] else [h7.p] := by
    have h1 : pts idn [(⟨blk, idn, p.f0⟩, h7)] = [h7.p] := by simp [pts]
    rw [h1, view_one]
    have hz : h7.p.f0 = x.f0 := by rw [HH7.out]; split; · rfl
                                   · exact HX.out.1
    have hw := HK.out.2.2
    rw [HX.out.1] at hw
    have hw2 : -9223372036854775808 ≤ x.f0 ∧ x.f0 ≤ 9223372036854775807 := by simpa [Lit.wf, IntKind.min, IntKind.max, IntKind.signed, IntKind.bits] using hw
    unfold Vw.cut
    rw [List.filter_cons, hz]
    split
    · rename_i h2
      rw [Bool.and_eq_true, decide_eq_true_iff, decide_eq_true_iff] at h2
      rw [if_neg (by omega)]
      rfl
    · rename_i h2
      rw [Bool.and_eq_true, decide_eq_true_iff, decide_eq_true_iff] at h2
      rw [if_pos (by omega)]
      rfl
  rw [hL] at hR
  have HP8 := Lib.hid (HP7.out.below hB)
  have HQ8 := Lib.hid (HQ7.out.below hB)
  have HB8 := Lib.hid (below_then HB7.out HB7.out.size hB)
  have HI8 := Lib.hid (HI7.out.below hB)
  have HR8 := Lib.hid hR
  clear hL hR hB HP7 HQ7 HB7 HI7
  have c0 := HP8.out.c0
  have c1 := HP8.out.c1
  have c2 := HP8.out.c2
  have d0 := HQ8.out.c0
  have d1 := HQ8.out.c1
  have d2 := HQ8.out.c2
  have l1 := HP8.out.lt
  have l2 := HQ8.out.lt
  obtain ⟨wb, hwb⟩ : ∃ r, winsP x p = r := ⟨_, rfl⟩
  rw [hwb] at HH7
  have HW := Lib.hid (fun X => thermographref06_Wins.calls x.f0 x.f1 x.f2 p.f0 p.f1 p.f2 wb X (by rw [Vw.rwins, hwb]))
  clear hwb
  go_wp2_with fail
  with_reducible refine (HW.out _).mono ?_
  rintro e w10 ⟨rfl, hB⟩
  have hb10 : Below w8.heap.size w8 w10 := below_then (below_alloc (Below.refl _ _) _) (by simp) hB
  have HT10 := Lib.hid (PtAt.mk (blk_below (blk_new w8 (.cells #[.int .i64 p.f0, .int .u64 p.f1, .int .u64 p.f2] 24)) hB))
  have HP10 := Lib.hid (HP8.out.below hb10)
  have HQ10 := Lib.hid (HQ8.out.below hb10)
  have HB10 := Lib.hid (below_then HB8.out HB8.out.size hb10)
  have HI10 := Lib.hid (HI8.out.below hb10)
  have HR10 := Lib.hid (Kd.R_below (Kd.R_elderB HR8.out w8.heap.size (Nat.le_refl _)) hb10)
  have HL := Lib.hid (And.intro l1 (And.intro l2 (And.intro HI8.out.lt HB8.out.size)))
  clear c0 c1 c2 d0 d1 d2 l1 l2 hb10 hB HP8 HQ8 HI8 HR8
  obtain ⟨gw, hgw⟩ : ∃ k, k = w8.heap.size := ⟨_, rfl⟩
  rw [← hgw] at HT10 HR10 HL
  have HGW := Lib.hid (show gw ≠ gp ∧ gw ≠ gq ∧ gw ≠ g ∧ gw ≠ b ∧ w.heap.size ≤ gw from by have q1_ := HL.out; omega)
  rw [← hgw]
  clear hgw
  have d0 := HQ10.out.c0
  have d1 := HQ10.out.c1
  have d2 := HQ10.out.c2
  have t0 := HT10.out.c0
  have t1 := HT10.out.c1
  have t2 := HT10.out.c2
  have u0 := blk_frozen HT10.out.blk 0
  have u1 := blk_frozen HT10.out.blk 1
  have u2 := blk_frozen HT10.out.blk 2
  go_upto_if 50 with fail
  go_cut [11] from 12 (fun s11 Y => s11 = .pointer (some ⟨gw, 0, none⟩) ∧ Aside0 (PtAt Y gp p ∧ PtAt Y gw h7.p ∧ Is Y g b [(⟨blk, idn, p.f0⟩, h7)] 3 ∧ Below w.heap.size w Y ∧ Kd.R k24 24 Y w7.heap.size (fun k => True ∧ k ≠ gw) v (if x.f0 = 9223372036854775807 then [] else [h7.p])))
  case first =>
    cases wb with
    | true =>
      rw [if_pos rfl] at HH7
      go_wp2_with fail
      go_meet
      case rel =>
        obtain ⟨Y, hY⟩ : ∃ Y : World, Y = ((w10.setCell ⟨gw, 0, none⟩ (.int .i64 x.f0)).setCell ⟨gw, 1, none⟩ (.int .u64 x.f1)).setCell ⟨gw, 2, none⟩ (.int .u64 x.f2) := ⟨_, rfl⟩
        rw [← hY]
        have hkeep : ∀ k, k ≠ gw → Y.heap[k]? = w10.heap[k]? := fun k hk => by
          rw [hY]
          exact (Below.heap_setCell _ _ _ _ hk).trans ((Below.heap_setCell _ _ _ _ hk).trans (Below.heap_setCell _ _ _ _ hk))
        have hg := HGW.out
        refine ⟨rfl, ⟨⟨(hkeep _ hg.1.symm).trans HP10.out.blk⟩, ?_, ⟨(hkeep _ hg.2.2.1.symm).trans HI10.out.1, HI10.out.2.move (hkeep _ hg.2.2.2.1.symm)⟩, ?_, Kd.R_step HR10.out (fun k hk _ => hkeep k hk.2)⟩⟩
        · rw [HH7.out, hY]; exact ⟨blk_set (blk_set (blk_set HT10.out.blk 0 _) 1 _) 2 _⟩
        · rw [hY]; exact below_set (below_set (below_set HB10.out hg.2.2.2.2) hg.2.2.2.2) hg.2.2.2.2
    | false =>
      rw [if_neg (by simp)] at HH7
      go_wp2_with fail
      go_meet
      case rel => exact ⟨rfl, ⟨HP10.out, by rw [HH7.out]; exact HT10.out, HI10.out, HB10.out, HR10.out⟩⟩
  case rest =>
    obtain ⟨rfl, HC⟩ := hcut
    clear HP10 HT10 HI10 HB10 HR10 d0 d1 d2 t0 t1 t2 u0 u1 u2 HQ10
    have c0 := HC.out.1.c0
    have c1 := HC.out.1.c1
    have c2 := HC.out.1.c2
    have t0 := HC.out.2.1.c0
    have t1 := HC.out.2.1.c1
    have t2 := HC.out.2.1.c2
    rw [← HX.out.1] at HC
    have HID := Lib.hid (show Is wc.drew g b [(⟨blk, idn, p.f0⟩, h7)] 3 from HC.out.2.2.1)
    have HLN := Lib.hid (len_one _ g b _ _ 3 HID.out)
    have HWR := Lib.hid (write_same _ g b p.f0 _ 3 4 blk idn HID.out (by omega) (by omega) (by omega) p rfl HK.out)
    have HBY := Lib.hid (below_drew HC.out.2.2.2.1)
    have HRY := Lib.hid HC.out.2.2.2.2
    clear HC
    rw [if_neg HMM.out] at HRY
    have hmb : (p.f0 == 9223372036854775807) = false := by simpa using HMM.out
    obtain ⟨gb, c8, rfl, v0, v1, v2⟩ := own_one HRY.out
    clear HRY HMM HX HH7 HW HGW HL
    go_wp2_with fail
    refine start_ (n := 34) (S := fun w' => w'.cell? ⟨gp, 0, none⟩ = some (.int .i64 p.f0) ∧ w'.cell? ⟨gp, 1, none⟩ = some (.int .u64 p.f1) ∧ w'.cell? ⟨gp, 2, none⟩ = some (.int .u64 p.f2) ∧ w'.cell? ⟨gb, 0, none⟩ = some (.int .i64 h7.p.f0) ∧ w'.cell? ⟨gb, 1, none⟩ = some (.int .u64 h7.p.f1) ∧ w'.cell? ⟨gb, 2, none⟩ = some (.int .u64 h7.p.f2) ∧ w'.cell? ⟨gw, 0, none⟩ = some (.int .i64 h7.p.f0) ∧ w'.cell? ⟨gw, 1, none⟩ = some (.int .u64 h7.p.f1) ∧ w'.cell? ⟨gw, 2, none⟩ = some (.int .u64 h7.p.f2)) (ds := [30]) #[false, false, false, false, false, false, false, false, false, false, false, false, false, false, false, false, false, false, false, false, false, false, false, false, false, false, false, false, false, false, false, false, false, false] (by kernel_rfl) rfl rfl ⟨c0, c1, c2, v0, v1, v2, t0, t1, t2⟩ (fun hHeld => ?_)
    refine with_tabW Twice_low.tab12 Twice_low.bits12 (fun HT_ HW_ => ?_)
    refine pure_ (i := 0) (N := some 52) (v := ?_) (a' := ?_) #[true, false, false, false, false, false, false, false, false, false, false, false, false, false, false, false, false, false, false, false, false, false, false, false, false, false, false, false, false, false, false, false, false, false] rfl rfl (any_of HT_.out (by kernel_rfl)) (fun _ _ _ h => h) (Or.inl ⟨by rfl, ?_⟩) ?_ ?_
    rotate_left
    · intro w'
      go_simp
      with_reducible rfl
    rotate_left
    · simp only [Act.put, List.setIfInBounds_toArray, List.set_cons_zero, List.set_cons_succ, i64_w, i32_w]
      rfl
    refine one_ (i := 1) (N := some 53) #[true, true, false, false, false, false, false, false, false, false, false, false, false, false, false, false, false, false, false, false, false, false, false, false, false, false, false, false, false, false, false, false, false, false] rfl rfl (one_of HT_.out (by kernel_rfl)) (by decide) (fun K hK => ?_)
    refine goes_ Try.func10 (by kernel_rfl) rfl #[.pointer (some ⟨g, 0, none⟩)] (by rfl) rfl rfl (by simp only [List.map_toArray, List.map_cons, List.map_nil]; rfl) ?_
    with_reducible refine (HLN.out).mono ?_
    rintro e w' ⟨rfl, rfl⟩
    refine ⟨_, rfl, ?_⟩
    refine hK.out _ _ ⟨c0, c1, c2, v0, v1, v2, t0, t1, t2⟩ (fun hHeld => ?_)
    clear hK K
    refine norm_ (a' := ?_) ?_ ?_
    rotate_left
    · show Act.put _ (some 53) _ = _
      simp only [Act.put, List.setIfInBounds_toArray, List.set_cons_zero, List.set_cons_succ, i64_w, i32_w]
      rfl
    refine pure_ (i := 2) (N := some 54) (v := ?_) (a' := ?_) #[true, true, true, false, false, false, false, false, false, false, false, false, false, false, false, false, false, false, false, false, false, false, false, false, false, false, false, false, false, false, false, false, false, false] rfl rfl (any_of HT_.out (by kernel_rfl)) (fun _ _ _ h => h) (Or.inl ⟨by rfl, ?_⟩) ?_ ?_
    rotate_left
    · intro w'
      go_simp
      with_reducible rfl
    rotate_left
    · simp only [Act.put, List.setIfInBounds_toArray, List.set_cons_zero, List.set_cons_succ, i64_w, i32_w]
      rfl
    refine pure_ (i := 3) (N := some 55) (v := ?_) (a' := ?_) #[true, true, true, true, false, false, false, false, false, false, false, false, false, false, false, false, false, false, false, false, false, false, false, false, false, false, false, false, false, false, false, false, false, false] rfl rfl (any_of HT_.out (by kernel_rfl)) (fun _ _ _ h => h) (Or.inl ⟨by rfl, ?_⟩) ?_ ?_
    rotate_left
    · intro w'
      go_simp
      with_reducible rfl
    rotate_left
    · simp only [Act.put, List.setIfInBounds_toArray, List.set_cons_zero, List.set_cons_succ, i64_w, i32_w]
      rfl
    refine pure_ (i := 4) (N := some 56) (v := ?_) (a' := ?_) #[true, true, true, true, true, false, false, false, false, false, false, false, false, false, false, false, false, false, false, false, false, false, false, false, false, false, false, false, false, false, false, false, false, false] rfl rfl (any_of HT_.out (by kernel_rfl)) (fun _ _ _ h => h) (Or.inl ⟨by rfl, ?_⟩) ?_ ?_
    rotate_left
    · intro w'
      go_simp
      with_reducible rfl
    rotate_left
    · simp only [Act.put, List.setIfInBounds_toArray, List.set_cons_zero, List.set_cons_succ, i64_w, i32_w]
      rfl
    refine take_ (i := 5) (N := some 57) (v := ?_) (a' := ?_) #[true, true, true, true, true, true, false, false, false, false, false, false, false, false, false, false, false, false, false, false, false, false, false, false, false, false, false, false, false, false, false, false, false, false] rfl rfl (take_ofW HT_.out HW_.out (by kernel_rfl)) (fun _ _ _ h => h) (Or.inl ⟨by rfl, ?_⟩) hHeld ?_ ?_
    rotate_left
    · rintro w' ⟨s0, s1, s2, s3, s4, s5, s6, s7, s8⟩
      go_simp
      with_reducible rfl
    rotate_left
    · simp only [Act.put, List.setIfInBounds_toArray, List.set_cons_zero, List.set_cons_succ, i64_w, i32_w]
      rfl
    refine pure_ (i := 6) (N := some 58) (v := ?_) (a' := ?_) #[true, true, true, true, true, true, true, false, false, false, false, false, false, false, false, false, false, false, false, false, false, false, false, false, false, false, false, false, false, false, false, false, false, false] rfl rfl (any_of HT_.out (by kernel_rfl)) (fun _ _ _ h => h) (Or.inl ⟨by rfl, ?_⟩) ?_ ?_
    rotate_left
    · intro w'
      go_simp
      with_reducible rfl
    rotate_left
    · simp only [Act.put, List.setIfInBounds_toArray, List.set_cons_zero, List.set_cons_succ, i64_w, i32_w]
      rfl
    refine pure_ (i := 7) (N := some 59) (v := ?_) (a' := ?_) #[true, true, true, true, true, true, true, true, false, false, false, false, false, false, false, false, false, false, false, false, false, false, false, false, false, false, false, false, false, false, false, false, false, false] rfl rfl (any_of HT_.out (by kernel_rfl)) (fun _ _ _ h => h) (Or.inl ⟨by rfl, ?_⟩) ?_ ?_
    rotate_left
    · intro w'
      go_simp
      with_reducible rfl
    rotate_left
    · simp only [Act.put, List.setIfInBounds_toArray, List.set_cons_zero, List.set_cons_succ, i64_w, i32_w]
      rfl
    refine pure_ (i := 8) (N := some 60) (v := undef) (a' := ?_) #[true, true, true, true, true, true, true, true, true, false, false, false, false, false, false, false, false, false, false, false, false, false, false, false, false, false, false, false, false, false, false, false, false, false] rfl rfl (any_of HT_.out (by kernel_rfl)) (fun _ _ _ h => h) (Or.inr ⟨by rfl, rfl⟩) ?_ ?_
    rotate_left
    · simp only [Act.put, List.setIfInBounds_toArray, List.set_cons_zero, List.set_cons_succ, i64_w, i32_w]
      rfl
    refine pure_ (i := 9) (N := some 61) (v := undef) (a' := ?_) #[true, true, true, true, true, true, true, true, true, true, false, false, false, false, false, false, false, false, false, false, false, false, false, false, false, false, false, false, false, false, false, false, false, false] rfl rfl (any_of HT_.out (by kernel_rfl)) (fun _ _ _ h => h) (Or.inr ⟨by rfl, rfl⟩) ?_ ?_
    rotate_left
    · simp only [Act.put, List.setIfInBounds_toArray, List.set_cons_zero, List.set_cons_succ, i64_w, i32_w]
      rfl
    refine pure_ (i := 10) (N := some 62) (v := undef) (a' := ?_) #[true, true, true, true, true, true, true, true, true, true, true, false, false, false, false, false, false, false, false, false, false, false, false, false, false, false, false, false, false, false, false, false, false, false] rfl rfl (any_of HT_.out (by kernel_rfl)) (fun _ _ _ h => h) (Or.inr ⟨by rfl, rfl⟩) ?_ ?_
    rotate_left
    · simp only [Act.put, List.setIfInBounds_toArray, List.set_cons_zero, List.set_cons_succ, i64_w, i32_w]
      rfl
    refine pure_ (i := 11) (N := some 63) (v := ?_) (a' := ?_) #[true, true, true, true, true, true, true, true, true, true, true, true, false, false, false, false, false, false, false, false, false, false, false, false, false, false, false, false, false, false, false, false, false, false] rfl rfl (any_of HT_.out (by kernel_rfl)) (fun _ _ _ h => h) (Or.inl ⟨by rfl, ?_⟩) ?_ ?_
    rotate_left
    · intro w'
      go_simp
      with_reducible rfl
    rotate_left
    · simp only [Act.put, List.setIfInBounds_toArray, List.set_cons_zero, List.set_cons_succ, i64_w, i32_w]
      rfl
    refine pure_ (i := 12) (N := some 64) (v := ?_) (a' := ?_) #[true, true, true, true, true, true, true, true, true, true, true, true, true, false, false, false, false, false, false, false, false, false, false, false, false, false, false, false, false, false, false, false, false, false] rfl rfl (any_of HT_.out (by kernel_rfl)) (fun _ _ _ h => h) (Or.inl ⟨by rfl, ?_⟩) ?_ ?_
    rotate_left
    · intro w'
      go_simp
      with_reducible rfl
    rotate_left
    · simp only [Act.put, List.setIfInBounds_toArray, List.set_cons_zero, List.set_cons_succ, i64_w, i32_w]
      rfl
    refine pure_ (i := 13) (N := some 65) (v := ?_) (a' := ?_) #[true, true, true, true, true, true, true, true, true, true, true, true, true, true, false, false, false, false, false, false, false, false, false, false, false, false, false, false, false, false, false, false, false, false] rfl rfl (any_of HT_.out (by kernel_rfl)) (fun _ _ _ h => h) (Or.inl ⟨by rfl, ?_⟩) ?_ ?_
    rotate_left
    · intro w'
      go_simp
      with_reducible rfl
    rotate_left
    · simp only [Act.put, List.setIfInBounds_toArray, List.set_cons_zero, List.set_cons_succ, i64_w, i32_w]
      rfl
    refine pure_ (i := 14) (N := some 66) (v := ?_) (a' := ?_) #[true, true, true, true, true, true, true, true, true, true, true, true, true, true, true, false, false, false, false, false, false, false, false, false, false, false, false, false, false, false, false, false, false, false] rfl rfl (any_of HT_.out (by kernel_rfl)) (fun _ _ _ h => h) (Or.inl ⟨by rfl, ?_⟩) ?_ ?_
    rotate_left
    · intro w'
      go_simp
      with_reducible rfl
    rotate_left
    · simp only [Act.put, List.setIfInBounds_toArray, List.set_cons_zero, List.set_cons_succ, i64_w, i32_w]
      rfl
    refine pure_ (i := 15) (N := some 67) (v := ?_) (a' := ?_) #[true, true, true, true, true, true, true, true, true, true, true, true, true, true, true, true, false, false, false, false, false, false, false, false, false, false, false, false, false, false, false, false, false, false] rfl rfl (any_of HT_.out (by kernel_rfl)) (fun _ _ _ h => h) (Or.inl ⟨by rfl, ?_⟩) ?_ ?_
    rotate_left
    · intro w'
      go_simp
      with_reducible rfl
    rotate_left
    · simp only [Act.put, List.setIfInBounds_toArray, List.set_cons_zero, List.set_cons_succ, i64_w, i32_w]
      rfl
    refine pure_ (i := 16) (N := some 68) (v := ?_) (a' := ?_) #[true, true, true, true, true, true, true, true, true, true, true, true, true, true, true, true, true, false, false, false, false, false, false, false, false, false, false, false, false, false, false, false, false, false] rfl rfl (any_of HT_.out (by kernel_rfl)) (fun _ _ _ h => h) (Or.inl ⟨by rfl, ?_⟩) ?_ ?_
    rotate_left
    · intro w'
      go_simp
      with_reducible rfl
    rotate_left
    · simp only [Act.put, List.setIfInBounds_toArray, List.set_cons_zero, List.set_cons_succ, i64_w, i32_w]
      rfl
    refine pure_ (i := 17) (N := some 69) (v := ?_) (a' := ?_) #[true, true, true, true, true, true, true, true, true, true, true, true, true, true, true, true, true, true, false, false, false, false, false, false, false, false, false, false, false, false, false, false, false, false] rfl rfl (any_of HT_.out (by kernel_rfl)) (fun _ _ _ h => h) (Or.inl ⟨by rfl, ?_⟩) ?_ ?_
    rotate_left
    · intro w'
      go_simp
      with_reducible rfl
    rotate_left
    · simp only [Act.put, List.setIfInBounds_toArray, List.set_cons_zero, List.set_cons_succ, i64_w, i32_w]
      rfl
    refine pure_ (i := 18) (N := some 70) (v := ?_) (a' := ?_) #[true, true, true, true, true, true, true, true, true, true, true, true, true, true, true, true, true, true, true, false, false, false, false, false, false, false, false, false, false, false, false, false, false, false] rfl rfl (any_of HT_.out (by kernel_rfl)) (fun _ _ _ h => h) (Or.inl ⟨by rfl, ?_⟩) ?_ ?_
    rotate_left
    · intro w'
      go_simp
      with_reducible rfl
    rotate_left
    · simp only [Act.put, List.setIfInBounds_toArray, List.set_cons_zero, List.set_cons_succ, i64_w, i32_w]
      rfl
    refine take_ (i := 19) (N := some 71) (v := ?_) (a' := ?_) #[true, true, true, true, true, true, true, true, true, true, true, true, true, true, true, true, true, true, true, true, false, false, false, false, false, false, false, false, false, false, false, false, false, false] rfl rfl (take_ofW HT_.out HW_.out (by kernel_rfl)) (fun _ _ _ h => h) (Or.inl ⟨by rfl, ?_⟩) hHeld ?_ ?_
    rotate_left
    · rintro w' ⟨s0, s1, s2, s3, s4, s5, s6, s7, s8⟩
      go_simp
      with_reducible rfl
    rotate_left
    · simp only [Act.put, List.setIfInBounds_toArray, List.set_cons_zero, List.set_cons_succ, i64_w, i32_w]
      rfl
    refine take_ (i := 20) (N := some 72) (v := ?_) (a' := ?_) #[true, true, true, true, true, true, true, true, true, true, true, true, true, true, true, true, true, true, true, true, true, false, false, false, false, false, false, false, false, false, false, false, false, false] rfl rfl (take_ofW HT_.out HW_.out (by kernel_rfl)) (fun _ _ _ h => h) (Or.inl ⟨by rfl, ?_⟩) hHeld ?_ ?_
    rotate_left
    · rintro w' ⟨s0, s1, s2, s3, s4, s5, s6, s7, s8⟩
      go_simp
      with_reducible rfl
    rotate_left
    · simp only [Act.put, List.setIfInBounds_toArray, List.set_cons_zero, List.set_cons_succ, i64_w, i32_w]
      rfl
    refine pure_ (i := 21) (N := some 73) (v := ?_) (a' := ?_) #[true, true, true, true, true, true, true, true, true, true, true, true, true, true, true, true, true, true, true, true, true, true, false, false, false, false, false, false, false, false, false, false, false, false] rfl rfl (any_of HT_.out (by kernel_rfl)) (fun _ _ _ h => h) (Or.inl ⟨by rfl, ?_⟩) ?_ ?_
    rotate_left
    · intro w'
      go_simp
      with_reducible rfl
    rotate_left
    · simp only [Act.put, List.setIfInBounds_toArray, List.set_cons_zero, List.set_cons_succ, i64_w, i32_w]
      rfl
    refine pure_ (i := 22) (N := some 74) (v := ?_) (a' := ?_) #[true, true, true, true, true, true, true, true, true, true, true, true, true, true, true, true, true, true, true, true, true, true, true, false, false, false, false, false, false, false, false, false, false, false] rfl rfl (any_of HT_.out (by kernel_rfl)) (fun _ _ _ h => h) (Or.inl ⟨by rfl, ?_⟩) ?_ ?_
    rotate_left
    · intro w'
      go_simp
      with_reducible rfl
    rotate_left
    · simp only [Act.put, List.setIfInBounds_toArray, List.set_cons_zero, List.set_cons_succ, i64_w, i32_w]
      rfl
    refine pure_ (i := 23) (N := some 75) (v := ?_) (a' := ?_) #[true, true, true, true, true, true, true, true, true, true, true, true, true, true, true, true, true, true, true, true, true, true, true, true, false, false, false, false, false, false, false, false, false, false] rfl rfl (any_of HT_.out (by kernel_rfl)) (fun _ _ _ h => h) (Or.inl ⟨by rfl, ?_⟩) ?_ ?_
    rotate_left
    · intro w'
      go_simp
      with_reducible rfl
    rotate_left
    · simp only [Act.put, List.setIfInBounds_toArray, List.set_cons_zero, List.set_cons_succ, i64_w, i32_w]
      rfl
    refine pure_ (i := 24) (N := some 76) (v := ?_) (a' := ?_) #[true, true, true, true, true, true, true, true, true, true, true, true, true, true, true, true, true, true, true, true, true, true, true, true, true, false, false, false, false, false, false, false, false, false] rfl rfl (any_of HT_.out (by kernel_rfl)) (fun _ _ _ h => h) (Or.inl ⟨by rfl, ?_⟩) ?_ ?_
    rotate_left
    · intro w'
      go_simp
      with_reducible rfl
    rotate_left
    · simp only [Act.put, List.setIfInBounds_toArray, List.set_cons_zero, List.set_cons_succ, i64_w, i32_w]
      rfl
    refine pure_ (i := 25) (N := some 77) (v := ?_) (a' := ?_) #[true, true, true, true, true, true, true, true, true, true, true, true, true, true, true, true, true, true, true, true, true, true, true, true, true, true, false, false, false, false, false, false, false, false] rfl rfl (any_of HT_.out (by kernel_rfl)) (fun _ _ _ h => h) (Or.inl ⟨by rfl, ?_⟩) ?_ ?_
    rotate_left
    · intro w'
      go_simp
      with_reducible rfl
    rotate_left
    · simp only [Act.put, List.setIfInBounds_toArray, List.set_cons_zero, List.set_cons_succ, i64_w, i32_w]
      rfl
    refine pure_ (i := 26) (N := some 78) (v := ?_) (a' := ?_) #[true, true, true, true, true, true, true, true, true, true, true, true, true, true, true, true, true, true, true, true, true, true, true, true, true, true, true, false, false, false, false, false, false, false] rfl rfl (any_of HT_.out (by kernel_rfl)) (fun _ _ _ h => h) (Or.inl ⟨by rfl, ?_⟩) ?_ ?_
    rotate_left
    · intro w'
      go_simp
      with_reducible rfl
    rotate_left
    · simp only [Act.put, List.setIfInBounds_toArray, List.set_cons_zero, List.set_cons_succ, i64_w, i32_w]
      rfl
    refine pure_ (i := 27) (N := some 79) (v := ?_) (a' := ?_) #[true, true, true, true, true, true, true, true, true, true, true, true, true, true, true, true, true, true, true, true, true, true, true, true, true, true, true, true, false, false, false, false, false, false] rfl rfl (any_of HT_.out (by kernel_rfl)) (fun _ _ _ h => h) (Or.inl ⟨by rfl, ?_⟩) ?_ ?_
    rotate_left
    · intro w'
      go_simp
      with_reducible rfl
    rotate_left
    · simp only [Act.put, List.setIfInBounds_toArray, List.set_cons_zero, List.set_cons_succ, i64_w, i32_w]
      rfl
    refine pure_ (i := 28) (N := some 80) (v := ?_) (a' := ?_) #[true, true, true, true, true, true, true, true, true, true, true, true, true, true, true, true, true, true, true, true, true, true, true, true, true, true, true, true, true, false, false, false, false, false] rfl rfl (any_of HT_.out (by kernel_rfl)) (fun _ _ _ h => h) (Or.inl ⟨by rfl, ?_⟩) ?_ ?_
    rotate_left
    · intro w'
      go_simp
      with_reducible rfl
    rotate_left
    · simp only [Act.put, List.setIfInBounds_toArray, List.set_cons_zero, List.set_cons_succ, i64_w, i32_w]
      rfl
    refine take_ (i := 29) (N := some 81) (v := ?_) (a' := ?_) #[true, true, true, true, true, true, true, true, true, true, true, true, true, true, true, true, true, true, true, true, true, true, true, true, true, true, true, true, true, true, false, false, false, false] rfl rfl (take_ofW HT_.out HW_.out (by kernel_rfl)) (fun _ _ _ h => h) (Or.inl ⟨by rfl, ?_⟩) hHeld ?_ ?_
    rotate_left
    · rintro w' ⟨s0, s1, s2, s3, s4, s5, s6, s7, s8⟩
      go_simp
      with_reducible rfl
    rotate_left
    · simp only [Act.put, List.setIfInBounds_toArray, List.set_cons_zero, List.set_cons_succ, i64_w, i32_w]
      rfl
    refine last_ (i := 30) (N := some 82) #[true, true, true, true, true, true, true, true, true, true, true, true, true, true, true, true, true, true, true, true, true, true, true, true, true, true, true, true, true, true, true, false, false, false] rfl rfl (one_of HT_.out (by kernel_rfl)) (by decide) (fun K hK => ?_)
    refine goes_ Try.func9 (by kernel_rfl) rfl #[.pointer (some ⟨g, 0, none⟩), .int .i64 blk, .string idn, .agg #[.int .i64 p.f0, .int .u64 p.f1, .int .u64 p.f2]] (by rfl) rfl rfl (by simp only [List.map_toArray, List.map_cons, List.map_nil]; rfl) ?_
    with_reducible refine (HWR.out).mono ?_
    rintro e w12 ⟨rfl, _, hF9⟩
    refine ⟨_, rfl, ?_⟩
    have HF9 := Lib.hid hF9
    clear hF9
    refine hK.out _ _ ?_
    clear hK K
    refine norm_ (a' := ?_) ?_ ?_
    rotate_left
    · show Act.put _ (some 82) _ = _
      simp only [Act.put, List.setIfInBounds_toArray, List.set_cons_zero, List.set_cons_succ, i64_w, i32_w]
      rfl
    refine pure_ (i := 31) (N := some 83) (v := ?_) (a' := ?_) #[true, true, true, true, true, true, true, true, true, true, true, true, true, true, true, true, true, true, true, true, true, true, true, true, true, true, true, true, true, true, true, true, false, false] rfl rfl (any_of HT_.out (by kernel_rfl)) (fun _ _ _ h => h) (Or.inl ⟨by rfl, ?_⟩) ?_ ?_
    rotate_left
    · intro w'
      go_simp
      with_reducible rfl
    rotate_left
    · simp only [Act.put, List.setIfInBounds_toArray, List.set_cons_zero, List.set_cons_succ, i64_w, i32_w]
      rfl
    refine pure_ (i := 32) (N := some 84) (v := ?_) (a' := ?_) #[true, true, true, true, true, true, true, true, true, true, true, true, true, true, true, true, true, true, true, true, true, true, true, true, true, true, true, true, true, true, true, true, true, false] rfl rfl (any_of HT_.out (by kernel_rfl)) (fun _ _ _ h => h) (Or.inl ⟨by rfl, ?_⟩) ?_ ?_
    rotate_left
    · intro w'
      go_simp
      with_reducible rfl
    rotate_left
    · simp only [Act.put, List.setIfInBounds_toArray, List.set_cons_zero, List.set_cons_succ, i64_w, i32_w]
      rfl
    refine pure_ (i := 33) (N := some 8) (v := ?_) (a' := ?_) #[true, true, true, true, true, true, true, true, true, true, true, true, true, true, true, true, true, true, true, true, true, true, true, true, true, true, true, true, true, true, true, true, true, true] rfl rfl (any_of HT_.out (by kernel_rfl)) (fun _ _ _ h => h) (Or.inl ⟨by rfl, ?_⟩) ?_ ?_
    rotate_left
    · intro w'
      go_simp
      with_reducible rfl
    rotate_left
    · simp only [Act.put, List.setIfInBounds_toArray, List.set_cons_zero, List.set_cons_succ, i64_w, i32_w]
      rfl
    refine done_ (done_of HT_.out (by kernel_rfl)) ?_
    go_wp2
    go_ret
    exact ⟨rfl, Fr.below HBY.out HF9.out HBY.out.size HN.out.2.1 HN.out.2.2.1⟩
set_option maxHeartbeats 1000000 in
theorem twice_long (w : World) (blk : Int) (idn : ByteArray) (p q : Pt) (hs : 4096 < idn.size) :
    Calls Try.prog 3 #[.int .i64 blk, .string idn, .agg #[.int .i64 p.f0, .int .u64 p.f1, .int .u64 p.f2], .agg #[.int .i64 q.f0, .int .u64 q.f1, .int .u64 q.f2]] w fun e w' => e = .returned (.bool true) ∧ Below w.heap.size w w' := by
  have hsz : (idn.size : Int) > 4096 := by omega
  have HB := Aside0.mk (below_alloc (below_alloc (Below.refl w.heap.size w) (.cells #[.int .i64 p.f0, .int .u64 p.f1, .int .u64 p.f2] 24)) (.cells #[.int .i64 q.f0, .int .u64 q.f1, .int .u64 q.f2] 24))
  go_enter Try.func3, Try.ntmps3
  go_wp2
  go_ret
  exact ⟨rfl, HB.out⟩
/-- BufferTwice's Go text returns true. -/
theorem twice_any (w : World) (blk : Int) (idn : ByteArray) (p q : Pt) (hk : OkP ⟨blk, idn, p.f0⟩) :
    Calls Try.prog 3 #[.int .i64 blk, .string idn, .agg #[.int .i64 p.f0, .int .u64 p.f1, .int .u64 p.f2], .agg #[.int .i64 q.f0, .int .u64 q.f1, .int .u64 q.f2]] w fun e w' => e = .returned (.bool true) ∧ Below w.heap.size w w' := by
  by_cases hs : 4096 < idn.size
  · exact twice_long w blk idn p q hs
  · by_cases hm : p.f0 = 9223372036854775807
    · exact twice_max w blk idn p q hk (by omega) hm
    · exact twice_low w blk idn p q hk (by omega) hm
end Buf
end Go.Proofs.Ytmocpglnoehknaa
