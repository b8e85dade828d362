/- ranges.Normal, Sub: the normal form of a list of ranges. -/
import Derived.Test.YtiinmagnpkfbbaaRgFlat
import Derived.Test.YtiinmagnpkfbbaaRanges
import Derived.Test.YtiinmagnpkfbbaaQT5
import Derived.Deep.Cut
namespace Go.Proofs.Ytiinmagnpkfbbaa
set_option linter.unusedVariables false
set_option linter.unusedSimpArgs false
open Go.RowKit Go.Proofs.YtiinmagnpkfbbaaW.PrintWords Go.Proofs.YtiinmagnpkfbbaaW.PrintLast Go.Proofs.YtiinmagnpkfbbaaW.PrintMore Go.Proofs.Ytiinmagnpkfbbaa.QT Go.Sort
namespace Rg
set_option maxHeartbeats 2000000 in
theorem insertion_nil (f : Value) (w : World) : Calls Try.prog 53 #[.slice none 0 0, .int .i64 0, .int .i64 0, f] w fun e w' => e = .returned (.tuple #[]) ∧ Below w.heap.size w w' := by
  have H0 := Lib.hid (Below.refl w.heap.size w)
  go_enter Try.func53, Try.ntmps53
  go_wp2
  go_loopg [8] 1 (fun gg s8 wr => s8 = .int .i64 1 ∧ Hid (Below w.heap.size w wr))
  case atStart => exact ⟨rfl, H0⟩
  case round =>
    obtain ⟨rfl, H⟩ := hrel
    go_wp2
    go_end0
    exact ⟨rfl, H.out⟩
set_option maxHeartbeats 4000000 in
set_option maxRecDepth 100000 in
theorem pdq_nil (f : Value) (lim : Int) (w : World) : Calls Try.prog 48 #[.slice none 0 0, .int .i64 0, .int .i64 0, .int .i64 lim, f] w fun e w' => e = .returned (.tuple #[]) ∧ Below w.heap.size w w' := by
  have H0 := Lib.hid (Below.refl w.heap.size w)
  have HI := Lib.hid (fun w => insertion_nil f w)
  go_enter Try.func48, Try.ntmps48
  go_wp2
  go_loopg [1, 2] 1 (fun gg s1 s2 wr => s1 = .int .i64 0 ∧ s2 = .int .i64 0 ∧ Hid (Below w.heap.size w wr))
  case atStart => exact ⟨rfl, rfl, H0⟩
  case round =>
    obtain ⟨rfl, rfl, H⟩ := hrel
    go_wp2_with fail
    with_reducible refine (HI.out _).mono ?_
    rintro e w1 ⟨rfl, hb1⟩
    have HB := Lib.hid (below_then H.out H.out.size hb1)
    clear hb1
    go_wp2
    refine bodyPost_ret (results_none rfl _ _ _) rfl ?_
    exact ⟨rfl, HB.out⟩
set_option maxHeartbeats 4000000 in
theorem sort_nil (f : Value) (w : World) : Calls Try.prog 34 #[.slice none 0 0, f] w fun e w' => e = .returned (.tuple #[]) ∧ Below w.heap.size w w' := by
  have hl : Calls Try.prog 49 #[.int .u64 0] w fun e w' => e = .returned (.int .i64 (Lib.bitLen 0 : Nat)) ∧ w' = w := by
    have h := Any.bits_Len (SlLaysF0.n15.bits (P := Try.prog) (ρ := Try.sortRange_ren) { Try.sortRange with }) (0 : Int) w (by omega) (by omega)
    exact h
  have HL := Lib.hid hl
  have HP := Lib.hid (fun lim w => pdq_nil f lim w)
  clear hl
  go_enter Try.func34, Try.ntmps34
  go_wp2_with fail
  with_reducible refine HL.out.mono ?_
  rintro e w1 ⟨rfl, rfl⟩
  go_wp2_with fail
  with_reducible refine (HP.out _ _).mono ?_
  rintro e w2 ⟨rfl, hb⟩
  have HB := Lib.hid hb
  clear hb
  go_wp2
  go_end0
  exact ⟨rfl, HB.out⟩
theorem sort_any (base : Nat) (P0 : Nat → Prop) (v : Value) (l : List R) (w : World) (hR : Kd.R k29 29 w base P0 v l) (hb : l.length < 4611686018427387904) :
    Calls Try.prog 34 #[v, .func (.func 35) #[] #[]] w fun e w' => e = .returned (.tuple #[]) ∧ ∃ l' : List R, l'.Perm l ∧ l'.Pairwise (fun a b => ¬ b.f0 < a.f0) ∧ Kd.R k29 29 w' base P0 v l' ∧ w.grownBy w' v.ownBlock := by
  obtain ⟨inner, ho⟩ := Kd.R_own hR
  rcases ho with ⟨_, ⟨rfl, h0⟩ | ⟨gb, cap, cur, rfl, _⟩⟩
  · have hl := List.eq_nil_of_length_eq_zero h0
    subst hl
    exact (sort_nil _ w).mono fun e w' ⟨he, hb⟩ => ⟨he, [], List.Perm.refl _, List.Pairwise.nil, Kd.R_nil _ _ _ _ _, grown_of_below hb _⟩
  · exact (sortR_row base gb l.length cap P0 l w hR hb).mono fun e w' ⟨he, l', h1, h2, h3, h4⟩ => ⟨he, l', h1, h2, h3, h4⟩
theorem norm1_calls (W : World) (x : R) : Calls Try.prog 33 (#[.agg #[.int .i64 x.f0, .int .i64 x.f1]] ++ #[]) W fun e w' => e = .returned (.bool (decide (x.f1 ≤ x.f0))) ∧ Below W.heap.size W w' :=
  ranges_Normal_1.calls x.f0 x.f1 _ W rfl
theorem enter33 : ∀ args w, (callFunc 33 args).run Try.prog w = .ok (.enter 33 args) w := fun args w => by kernel_rfl
set_option maxHeartbeats 1000000 in
theorem index_nil (f : Value) (w : World) : Calls Try.prog 47 #[.slice none 0 0, f] w fun e w' => e = .returned (.int .i64 (-1)) ∧ Below w.heap.size w w' := by
  have H0 := Lib.hid (Below.refl w.heap.size w)
  go_enter Try.func47, Try.ntmps47
  go_wp2
  go_loopg [8] 1 (fun gg s8 wr => s8 = .int .i64 0 ∧ Hid (Below w.heap.size w wr))
  case atStart => exact ⟨rfl, H0⟩
  case round =>
    obtain ⟨rfl, H⟩ := hrel
    go_wp2
    go_ret
    exact ⟨rfl, H.out⟩
set_option maxHeartbeats 1000000 in
theorem delete_nil (f : Value) (w : World) : Calls Try.prog 32 #[.slice none 0 0, f] w fun e w' => e = .returned (.slice none 0 0) ∧ Below w.heap.size w w' := by
  have HI := Lib.hid (index_nil f w)
  go_enter Try.func32, Try.ntmps32
  go_wp2_with fail
  with_reducible refine HI.out.mono ?_
  rintro e w1 ⟨rfl, hb1⟩
  have HB := Lib.hid hb1
  clear hb1
  go_wp2
  go_ret
  exact ⟨rfl, HB.out⟩
theorem delete_any (base : Nat) (P0 : Nat → Prop) (v : Value) (l : List R) (w : World) (hR : Kd.R k29 29 w base P0 v l) :
    Calls Try.prog 32 #[v, .func (.func 33) #[] #[]] w fun e w' => ∃ v' : Value, e = .returned v' ∧ Kd.R k29 29 w' base P0 v' (l.filter full) ∧ v'.ownBlock = v.ownBlock ∧ w.grownBy w' v.ownBlock := by
  obtain ⟨inner, ho⟩ := Kd.R_own hR
  rcases ho with ⟨_, ⟨rfl, h0⟩ | ⟨gb, cap, cur, rfl, _⟩⟩
  · have hl := List.eq_nil_of_length_eq_zero h0
    subst hl
    exact (delete_nil _ w).mono fun e w' ⟨he, hb⟩ => ⟨_, he, Kd.R_nil _ _ _ _ _, rfl, grown_of_below hb _⟩
  · exact (delete_range (fun x => decide (x.f1 ≤ x.f0)) 33 #[] enter33 base P0 gb cap l.length l w hR (fun W _ x => norm1_calls W x)).mono fun e w' ⟨he, h1, h2⟩ => ⟨_, he, h1, rfl, h2⟩
theorem rd29 {l : List R} {i : Nat} (h : i < l.length) : rd_T29 l (i : Int) = l[i] := by unfold rd_T29; rw [Int.toNat_natCast, List.getD_eq_getElem?_getD, List.getElem?_eq_getElem h]; rfl
theorem R29_grown {w w' : World} {base : Nat} {ok : Nat → Prop} {v : Value} {xs : List R} {row : Option Nat} (h : Kd.R k29 29 w base ok v xs) (hg : w.grownBy w' row) (hne : ∀ k, v.ownBlock = some k → some k ≠ row) : Kd.R k29 29 w' base ok v xs := by
  have h1 : Kd.R k29 29 w base (fun k => some k ≠ row) v xs := ⟨fun k hk => hne k hk, h.2.imp_ (fun p c hp => by obtain rfl := k29_openM hp; exact k29_mkM _ _ _ p)⟩
  have h2 := Kd.R_grown h1 hg (fun _ hk => hk)
  exact ⟨h.1, h2.2.imp_ (fun p c hp => by obtain rfl := k29_openM hp; exact k29_mkM _ _ _ p)⟩
theorem lay_len (out : List R) (r : R) : (lay out r).length ≤ out.length + 1 := by
  rcases snoc_or out with rfl | ⟨P, x, rfl⟩
  · rw [lay_nil]; simp
  · rw [lay_snoc]; split <;> simp
theorem info29 : (Try.prog.info? 29).map (fun i => (i.zero, i.size, i.bytes)) = some (some (.agg #[.int .i64 0, .int .i64 0]), 2, 16) := by kernel_rfl
theorem set_last (P : List R) (x y : R) : (P ++ [x]).set P.length y = P ++ [y] := by simp
theorem lay_far {out : List R} {r : R} (h : ∀ P x, out = P ++ [x] → x.f1 < r.f0) : lay out r = out ++ [r] := by
  rcases snoc_or out with rfl | ⟨P, x, rfl⟩
  · rw [lay_nil]; rfl
  · rw [lay_snoc, if_neg (by have := h P x rfl; omega)]
theorem layAll_take {s : List R} {i : Nat} (h : i < s.length) : layAll (s.take (i + 1)) = lay (layAll (s.take i)) s[i] := by
  unfold layAll
  rw [List.take_succ_eq_append_getElem h, List.foldl_append]
  rfl
theorem layAll_len (s : List R) (i : Nat) : (layAll (s.take i)).length ≤ i := by
  induction i with
  | zero => simp [layAll]
  | succ i ih =>
    by_cases h : i < s.length
    · rw [layAll_take h]
      have := lay_len (layAll (s.take i)) s[i]
      omega
    · rw [List.take_of_length_le (by omega)]
      rw [List.take_of_length_le (by omega)] at ih
      omega
def Norm_N.T10 : Bool × List (List Nat × List Nat) := (true, [([], []), ([], []), ([1], [1]), ([2], [2]), ([0, 3], [0, 3]), ([4], [4]), ([5], [5]), ([6, 5], [5, 6]), ([5], [5]), ([5], [5]), ([8, 9, 5], [5, 8, 9]), ([10, 5], [5, 10]), ([11, 5], [5, 11]), ([7, 12, 5], [5, 7, 12]), ([5, 13], [5, 13])])
def Norm_N.B10 : List Nat := [0, 0, 2, 6, 15, 31, 63, 127, 63, 63, 831, 1855, 3903, 8191, 16383]
theorem Norm_N.tab10 : rtab .any (opsOf Try.f17 10) = Norm_N.T10 := by kernel_rfl
theorem Norm_N.bits10 : waitsOk Norm_N.T10.2 Norm_N.B10 = true := by kernel_rfl
def Norm_H.T10 : Bool × List (List Nat × List Nat) := (true, [([], []), ([], []), ([1], [1]), ([2], [2]), ([0, 3], [0, 3]), ([4], [4]), ([5], [5]), ([6, 5], [5, 6]), ([5], [5]), ([5], [5]), ([8, 9, 5], [5, 8, 9]), ([10, 5], [5, 10]), ([11, 5], [5, 11]), ([7, 12, 5], [5, 7, 12]), ([5, 13], [5, 13])])
def Norm_H.B10 : List Nat := [0, 0, 2, 6, 15, 31, 63, 127, 63, 63, 831, 1855, 3903, 8191, 16383]
theorem Norm_H.tab10 : rtab .any (opsOf Try.f17 10) = Norm_H.T10 := by kernel_rfl
theorem Norm_H.bits10 : waitsOk Norm_H.T10.2 Norm_H.B10 = true := by kernel_rfl
def Norm.T11 : Bool × List (List Nat × List Nat) := (true, [([], []), ([], []), ([], []), ([], []), ([2, 3], [2, 3]), ([4], [4]), ([5], [5]), ([], []), ([7], [7]), ([6, 8], [6, 8]), ([0, 1, 0, 1, 2, 3, 4, 5, 6, 7, 8, 9], [0, 1]), ([10, 0, 1, 2, 3, 4, 5, 6, 7, 8, 9], [10]), ([11, 9, 0, 1, 2, 3, 4, 5, 6, 7, 8, 9], [9, 11])])
def Norm.B11 : List Nat := [0, 0, 0, 0, 12, 28, 60, 0, 128, 508, 1023, 2047, 4095]
theorem Norm.tab11 : rtab .any (opsOf Try.f17 11) = Norm.T11 := by kernel_rfl
theorem Norm.bits11 : waitsOk Norm.T11.2 Norm.B11 = true := by kernel_rfl
set_option maxHeartbeats 4000000 in
set_option maxRecDepth 100000 in
theorem normal_calls (w : World) (A : Option Addr) (c : Nat) (l : List R) (hC : Kd.C k29 w A l.length l) (hc : l.length ≤ c) (hl : l.length ≤ 1000000) :
    Calls Try.prog 17 #[.slice A l.length c] w fun e w' => ∃ v : Value, e = .returned v ∧ Kd.R k29 29 w' w.heap.size (fun _ => True) v (normR l) ∧ Below w.heap.size w w' := by
  have HCL := Lib.hid (clone_Range.calls A c l l w hC hc (by unfold clone_Range.f; rw [if_pos (by omega)]))
  clear hC
  go_enter Try.func17, Try.ntmps17
  go_wp2_with fail
  go_step3
  trace_state
  go_wp2_with fail
  with_reducible refine HCL.out.mono ?_
  rintro e w1 ⟨v1, rfl, hR1, hB1⟩
  have HDL := Lib.hid (delete_any w.heap.size (fun _ => True) v1 l w1 hR1)
  have HR1 := Lib.hid hR1
  have HB1 := Lib.hid hB1
  clear hR1 hB1 HCL
  go_wp2_with fail
  with_reducible refine HDL.out.mono ?_
  rintro e w2 ⟨v2, rfl, hR2, ho2, hg2⟩
  have hfl := List.length_filter_le full l
  have HSO := Lib.hid (sort_any w.heap.size (fun _ => True) v2 (l.filter full) w2 hR2 (by omega))
  have HB2 := Lib.hid (HB1.out.grown hg2 HB1.out.size (fun k hk => Kd.R_base HR1.out k hk))
  have HO2 := Lib.hid (Kd.R_base hR2)
  clear hR2 ho2 hg2 HDL HR1 HB1
  go_wp2_with fail
  with_reducible refine HSO.out.mono ?_
  rintro e w3 ⟨rfl, s, hperm, hsort, hR3, hg3⟩
  have HB3 := Lib.hid (HB2.out.grown hg3 HB2.out.size (fun k hk => HO2.out k hk))
  have HR3 := Lib.hid hR3
  have HNE := Lib.hid (normal_eq hperm (hsort.imp fun h => by omega))
  have hsl : s.length ≤ 1000000 := by have := hperm.length_eq; omega
  obtain ⟨As, cs, rfl⟩ := Kd.R_slice hR3
  clear hperm hsort hR3 hg3 HSO HB2 HO2 hfl
  go_wp2_with fail
  go_step3
  go_wp2_with fail
  go_loopg [4, 15] s.length (fun gn v4 v15 wr => ∃ (i : Nat), v15 = .int .i64 (i : Int) ∧ Aside0 (gn = s.length - i) ∧ Aside0 (i ≤ s.length) ∧ Aside0 (Kd.R k29 29 wr w.heap.size (fun _ => True) v4 (layAll (s.take i))) ∧ Aside0 (Kd.R k29 29 wr w.heap.size (fun _ => True) (.slice As s.length cs) s) ∧ Aside0 (∀ k, v4.ownBlock = some k → (Value.slice As s.length cs).ownBlock ≠ some k) ∧ Aside0 (Below w.heap.size w wr))
  case atStart => exact ⟨0, rfl, ⟨rfl⟩, ⟨Nat.zero_le _⟩, ⟨Kd.R_nil _ _ _ _ _⟩, ⟨HR3.out⟩, ⟨fun k hk => by simp [Value.ownBlock] at hk⟩, ⟨HB3.out⟩⟩
  case round =>
    clear HR3 HB3
    obtain ⟨i, rfl, HN, HI, HO, HS, HAP, HB⟩ := hrel
    by_cases hi : i < s.length
    · have hi0 : (i : Int) < (s.length : Int) := by omega
      have hwr : wrap64 ((i : Int) + 1) = (i : Int) + 1 := by unfold wrap64; omega
      obtain ⟨ad, ead, q0, q1⟩ := at_T29 (Kd.R_reads' HS.out).2.2 (i : Int) (by omega) hi0
      cases ead
      have hto : ((i : Int)).toNat = i := Int.toNat_natCast i
      rw [hto] at q0 q1
      obtain ⟨r, hr⟩ : ∃ r, rd_T29 s (i : Int) = r := ⟨_, rfl⟩
      rw [hr] at q0 q1
      have hst := layAll_take hi
      rw [show s[i] = r from by rw [← hr, rd29 hi]] at hst
      have HST := Lib.hid hst
      have hll := layAll_len s i
      obtain ⟨out, hout⟩ : ∃ out, layAll (s.take i) = out := ⟨_, rfl⟩
      rw [hout] at HST HO hll
      have hol : out.length ≤ 1000000 := by omega
      clear hr hto hst hout hll
      obtain ⟨A4, c4, rfl⟩ := Kd.R_slice HO.out
      have HOX := Lib.hid (Kd.R_alloc HO.out (.cells #[.int .i64 r.f0, .int .i64 r.f1] 29))
      have HSX := Lib.hid (Kd.R_alloc HS.out (.cells #[.int .i64 r.f0, .int .i64 r.f1] 29))
      have HBX := Lib.hid (below_then HB.out HB.out.size (below_alloc (Below.refl wr.heap.size wr) (.cells #[.int .i64 r.f0, .int .i64 r.f1] 29)))
      have HQX := Lib.hid (blk_new wr (.cells #[.int .i64 r.f0, .int .i64 r.f1] 29))
      have HQN := Lib.hid (show (∀ k, (Value.slice A4 out.length c4).ownBlock = some k → k ≠ wr.heap.size) from fun k hk => by have := Kd.R_lt HO.out k hk; omega)
      go_wp2_with fail
      obtain ⟨gq, hgq⟩ : ∃ gq, gq = wr.heap.size := ⟨_, rfl⟩
      obtain ⟨X, hX⟩ : ∃ X : World, X = wr.alloc (.cells #[.int .i64 r.f0, .int .i64 r.f1] 29) := ⟨_, rfl⟩
      rw [← hX] at HOX HSX HBX HQX
      rw [← hgq] at HQX HQN
      rw [← hX, ← hgq]
      clear hX hgq HO HS HB q0 q1
      go_loopg [21] out.length (fun gn v21 wj => ∃ (j : Nat), v21 = .int .i64 (j : Int) ∧ Aside0 (gn = out.length - j) ∧ Aside0 (j ≤ out.length) ∧ Aside0 (j = out.length → ∀ P x, out = P ++ [x] → x.f1 < r.f0) ∧ Aside0 (Below X.heap.size X wj))
      case atStart => exact ⟨0, rfl, ⟨rfl⟩, ⟨Nat.zero_le _⟩, ⟨fun h P x e => by rw [e] at h; simp at h⟩, ⟨Below.refl _ _⟩⟩
      case round =>
        obtain ⟨j, rfl, HNJ, HJ, HLAST, HBJ⟩ := hrel
        have HOJ := Lib.hid (Kd.R_below HOX.out HBJ.out)
        have HSJ := Lib.hid (Kd.R_below HSX.out HBJ.out)
        have HQJ := Lib.hid (blk_below HQX.out HBJ.out)
        have HBW := Lib.hid (below_then HBX.out HBX.out.size HBJ.out)
        have b0 : wr.cell? ⟨gq, 0, none⟩ = some (.int .i64 r.f0) := (blk_cell HQJ.out 0).trans rfl
        have b1 : wr.cell? ⟨gq, 1, none⟩ = some (.int .i64 r.f1) := (blk_cell HQJ.out 1).trans rfl
        by_cases hj : j < out.length
        · have hj0 : (j : Int) < (out.length : Int) := by omega
          have hwj : wrap64 ((j : Int) + 1) = (j : Int) + 1 := by unfold wrap64; omega
          have hwm : wrap64 ((out.length : Int) - 1) = (out.length : Int) - 1 := by unfold wrap64; omega
          by_cases hlast : j + 1 = out.length
          case neg =>
            have e1 : ((j : Int) == (out.length : Int) - 1) = false := by rw [beq_eq_false_iff_ne]; omega
            have HLN := Lib.hid hlast
            clear hlast
            go_wp2_with fail
            refine start_ (n := 15) (S := fun w' => w'.cell? ⟨gq, 0, none⟩ = some (.int .i64 r.f0)) (ds := []) #[false, false, false, false, false, false, false, false, false, false, false, false, false, false, false] (by kernel_rfl) rfl rfl (b0) (fun hHeld => ?_)
            refine with_tabW Norm_N.tab10 Norm_N.bits10 (fun HT_ HW_ => ?_)
            refine pure_ (i := 0) (N := some 24) (v := ?_) (a' := ?_) #[true, false, false, false, false, false, false, false, false, false, false, false, false, false, false] rfl rfl (any_of HT_.out (by kernel_rfl)) (fun _ _ _ h => h) (Or.inl ⟨by rfl, ?_⟩) ?_ ?_
            rotate_left
            · intro w'
              go_simp
              with_reducible rfl
            rotate_left
            · simp only [Act.put, List.setIfInBounds_toArray, List.set_cons_zero, List.set_cons_succ, i64_w, i32_w]
              rfl
            refine pure_ (i := 1) (N := some 25) (v := ?_) (a' := ?_) #[true, true, false, false, false, false, false, false, false, false, false, false, false, false, false] rfl rfl (any_of HT_.out (by kernel_rfl)) (fun _ _ _ h => h) (Or.inl ⟨by rfl, ?_⟩) ?_ ?_
            rotate_left
            · intro w'
              go_simp
              with_reducible rfl
            rotate_left
            · simp only [Act.put, List.setIfInBounds_toArray, List.set_cons_zero, List.set_cons_succ, i64_w, i32_w]
              rfl
            refine pure_ (i := 2) (N := some 26) (v := ?_) (a' := ?_) #[true, true, true, false, false, false, false, false, false, false, false, false, false, false, false] rfl rfl (any_of HT_.out (by kernel_rfl)) (fun _ _ _ h => h) (Or.inl ⟨by rfl, ?_⟩) ?_ ?_
            rotate_left
            · intro w'
              go_simp
              with_reducible rfl
            rotate_left
            · simp only [Act.put, List.setIfInBounds_toArray, List.set_cons_zero, List.set_cons_succ, i64_w, i32_w]
              rfl
            refine pure_ (i := 3) (N := some 27) (v := ?_) (a' := ?_) #[true, true, true, true, false, false, false, false, false, false, false, false, false, false, false] rfl rfl (any_of HT_.out (by kernel_rfl)) (fun _ _ _ h => h) (Or.inl ⟨by rfl, ?_⟩) ?_ ?_
            rotate_left
            · intro w'
              go_simp
              with_reducible rfl
            rotate_left
            · simp only [Act.put, List.setIfInBounds_toArray, List.set_cons_zero, List.set_cons_succ, i64_w, i32_w]
              rfl
            refine pure_ (i := 4) (N := some 28) (v := ?_) (a' := ?_) #[true, true, true, true, true, false, false, false, false, false, false, false, false, false, false] rfl rfl (any_of HT_.out (by kernel_rfl)) (fun _ _ _ h => h) (Or.inl ⟨by rfl, ?_⟩) ?_ ?_
            rotate_left
            · intro w'
              go_simp
              with_reducible rfl
            rotate_left
            · simp only [Act.put, List.setIfInBounds_toArray, List.set_cons_zero, List.set_cons_succ, i64_w, i32_w]
              rfl
            refine pure_ (i := 5) (N := some 29) (v := ?_) (a' := ?_) #[true, true, true, true, true, true, false, false, false, false, false, false, false, false, false] rfl rfl (any_of HT_.out (by kernel_rfl)) (fun _ _ _ h => h) (Or.inl ⟨by rfl, ?_⟩) ?_ ?_
            rotate_left
            · intro w'
              go_simp
              with_reducible rfl
            rotate_left
            · simp only [Act.put, List.setIfInBounds_toArray, List.set_cons_zero, List.set_cons_succ, i64_w, i32_w]
              rfl
            refine pure_ (i := 6) (N := some 30) (v := undef) (a' := ?_) #[true, true, true, true, true, true, true, false, false, false, false, false, false, false, false] rfl rfl (any_of HT_.out (by kernel_rfl)) (fun _ _ _ h => h) (Or.inr ⟨by rfl, rfl⟩) ?_ ?_
            rotate_left
            · simp only [Act.put, List.setIfInBounds_toArray, List.set_cons_zero, List.set_cons_succ, i64_w, i32_w]
              rfl
            refine pure_ (i := 7) (N := some 31) (v := undef) (a' := ?_) #[true, true, true, true, true, true, true, true, false, false, false, false, false, false, false] rfl rfl (any_of HT_.out (by kernel_rfl)) (fun _ _ _ h => h) (Or.inr ⟨by rfl, rfl⟩) ?_ ?_
            rotate_left
            · simp only [Act.put, List.setIfInBounds_toArray, List.set_cons_zero, List.set_cons_succ, i64_w, i32_w]
              rfl
            refine pure_ (i := 8) (N := some 32) (v := undef) (a' := ?_) #[true, true, true, true, true, true, true, true, true, false, false, false, false, false, false] rfl rfl (any_of HT_.out (by kernel_rfl)) (fun _ _ _ h => h) (Or.inr ⟨by rfl, rfl⟩) ?_ ?_
            rotate_left
            · simp only [Act.put, List.setIfInBounds_toArray, List.set_cons_zero, List.set_cons_succ, i64_w, i32_w]
              rfl
            refine pure_ (i := 9) (N := some 33) (v := undef) (a' := ?_) #[true, true, true, true, true, true, true, true, true, true, false, false, false, false, false] rfl rfl (any_of HT_.out (by kernel_rfl)) (fun _ _ _ h => h) (Or.inr ⟨by rfl, rfl⟩) ?_ ?_
            rotate_left
            · simp only [Act.put, List.setIfInBounds_toArray, List.set_cons_zero, List.set_cons_succ, i64_w, i32_w]
              rfl
            refine pure_ (i := 10) (N := some 34) (v := undef) (a' := ?_) #[true, true, true, true, true, true, true, true, true, true, true, false, false, false, false] rfl rfl (any_of HT_.out (by kernel_rfl)) (fun _ _ _ h => h) (Or.inr ⟨by rfl, rfl⟩) ?_ ?_
            rotate_left
            · simp only [Act.put, List.setIfInBounds_toArray, List.set_cons_zero, List.set_cons_succ, i64_w, i32_w]
              rfl
            refine pure_ (i := 11) (N := some 35) (v := undef) (a' := ?_) #[true, true, true, true, true, true, true, true, true, true, true, true, false, false, false] rfl rfl (any_of HT_.out (by kernel_rfl)) (fun _ _ _ h => h) (Or.inr ⟨by rfl, rfl⟩) ?_ ?_
            rotate_left
            · simp only [Act.put, List.setIfInBounds_toArray, List.set_cons_zero, List.set_cons_succ, i64_w, i32_w]
              rfl
            refine pure_ (i := 12) (N := some 36) (v := undef) (a' := ?_) #[true, true, true, true, true, true, true, true, true, true, true, true, true, false, false] rfl rfl (any_of HT_.out (by kernel_rfl)) (fun _ _ _ h => h) (Or.inr ⟨by rfl, rfl⟩) ?_ ?_
            rotate_left
            · simp only [Act.put, List.setIfInBounds_toArray, List.set_cons_zero, List.set_cons_succ, i64_w, i32_w]
              rfl
            refine pure_ (i := 13) (N := some 37) (v := undef) (a' := ?_) #[true, true, true, true, true, true, true, true, true, true, true, true, true, true, false] rfl rfl (any_of HT_.out (by kernel_rfl)) (fun _ _ _ h => h) (Or.inr ⟨by rfl, rfl⟩) ?_ ?_
            rotate_left
            · simp only [Act.put, List.setIfInBounds_toArray, List.set_cons_zero, List.set_cons_succ, i64_w, i32_w]
              rfl
            refine pure_ (i := 14) (N := some 38) (v := ?_) (a' := ?_) #[true, true, true, true, true, true, true, true, true, true, true, true, true, true, true] rfl rfl (any_of HT_.out (by kernel_rfl)) (fun _ _ _ h => h) (Or.inl ⟨by rfl, ?_⟩) ?_ ?_
            rotate_left
            · intro w'
              go_simp
              with_reducible rfl
            rotate_left
            · simp only [Act.put, List.setIfInBounds_toArray, List.set_cons_zero, List.set_cons_succ, i64_w, i32_w]
              rfl
            refine done_ (done_of HT_.out (by kernel_rfl)) ?_
            go_wp2_with fail
            go_roundg (out.length - (j + 1))
            case measure => have := HNJ.out; omega
            case rel => exact ⟨j + 1, by first | rfl | (simp [hwj]; done) | rw [hwj], ⟨rfl⟩, ⟨hj⟩, ⟨fun h => absurd h HLN.out⟩, ⟨below_drew HBJ.out⟩⟩
          case pos =>
            have e1 : ((j : Int) == (out.length : Int) - 1) = true := by rw [beq_iff_eq]; omega
            obtain ⟨inner, ho⟩ := Kd.R_own HOJ.out
            obtain ⟨ga, rfl⟩ : ∃ ga, A4 = some ⟨ga, 0, none⟩ := by
              rcases ho with ⟨_, ⟨e, h0⟩ | ⟨gb, cap, cur, e, _⟩⟩
              · omega
              · injection e with e _ _; exact ⟨gb, e⟩
            clear ho
            obtain ⟨cc, hcl, hM, hcc, hfr⟩ := Kd.R_elem HOJ.out z29 (j : Int) (by omega) (by omega)
            rw [Int.toNat_natCast] at hM hcc hfr
            obtain ⟨x, hx⟩ : ∃ x, out.getD j z29 = x := ⟨_, rfl⟩
            rw [hx] at hM
            obtain rfl := k29_openM hM
            have a1 : wr.cell? ⟨ga, j * 2 + 1, none⟩ = some (.int .i64 x.f1) := hcc 1 _ rfl
            have fz : wr.frozen? ⟨ga, j * 2 + 1, none⟩ = false := hfr 1
            obtain ⟨P, hP⟩ : ∃ P, out = P ++ [x] := by
              rcases snoc_or out with e | ⟨P, y, e⟩
              · rw [e] at hj; simp at hj
              · refine ⟨P, ?_⟩
                have : P.length = j := by rw [e] at hlast; simp at hlast; omega
                rw [e] at hx ⊢
                rw [← hx, ← this]
                simp
            have HPX := Lib.hid hP
            have HPL := Lib.hid (show P.length = j by rw [hP] at hlast; simp at hlast; omega)
            have HSEG := Lib.hid (fun (mx : Int) => Kd.R_seg HOJ.out (j : Int) (by omega) (by omega) (seg := [.int .i64 mx]) (j := 1) hcl (by rw [Int.toNat_natCast]; exact hcc) (by rw [show k29.sz = 2 from rfl]; simp) (x' := ⟨x.f0, mx⟩) (okp := fun k_ => (True ∧ k_ ≠ ga)) (k29_mkM _ _ _ ⟨x.f0, mx⟩) (fun _ hk => hk))
            have HGAL := Lib.hid (Kd.R_base HOJ.out ga rfl)
            clear hcl hM hcc hfr hx hP
            cases hcmp : decide (r.f0 ≤ x.f1) with
            | false =>
              have HCMP := Lib.hid (of_decide_eq_false hcmp)
              go_wp2_with fail
              refine start_ (n := 15) (S := fun w' => w'.cell? ⟨gq, 0, none⟩ = some (.int .i64 r.f0) ∧ w'.cell? ⟨ga, j * 2 + 1, none⟩ = some (.int .i64 x.f1)) (ds := []) #[false, false, false, false, false, false, false, false, false, false, false, false, false, false, false] (by kernel_rfl) rfl rfl ⟨b0, a1⟩ (fun hHeld => ?_)
              refine with_tabW Norm_H.tab10 Norm_H.bits10 (fun HT_ HW_ => ?_)
              refine pure_ (i := 0) (N := some 24) (v := ?_) (a' := ?_) #[true, false, false, false, false, false, false, false, false, false, false, false, false, false, false] rfl rfl (any_of HT_.out (by kernel_rfl)) (fun _ _ _ h => h) (Or.inl ⟨by rfl, ?_⟩) ?_ ?_
              rotate_left
              · intro w'
                go_simp
                with_reducible rfl
              rotate_left
              · simp only [Act.put, List.setIfInBounds_toArray, List.set_cons_zero, List.set_cons_succ, i64_w, i32_w]
                rfl
              refine pure_ (i := 1) (N := some 25) (v := ?_) (a' := ?_) #[true, true, false, false, false, false, false, false, false, false, false, false, false, false, false] rfl rfl (any_of HT_.out (by kernel_rfl)) (fun _ _ _ h => h) (Or.inl ⟨by rfl, ?_⟩) ?_ ?_
              rotate_left
              · intro w'
                go_simp
                with_reducible rfl
              rotate_left
              · simp only [Act.put, List.setIfInBounds_toArray, List.set_cons_zero, List.set_cons_succ, i64_w, i32_w]
                rfl
              refine pure_ (i := 2) (N := some 26) (v := ?_) (a' := ?_) #[true, true, true, false, false, false, false, false, false, false, false, false, false, false, false] rfl rfl (any_of HT_.out (by kernel_rfl)) (fun _ _ _ h => h) (Or.inl ⟨by rfl, ?_⟩) ?_ ?_
              rotate_left
              · intro w'
                go_simp
                with_reducible rfl
              rotate_left
              · simp only [Act.put, List.setIfInBounds_toArray, List.set_cons_zero, List.set_cons_succ, i64_w, i32_w]
                rfl
              refine pure_ (i := 3) (N := some 27) (v := ?_) (a' := ?_) #[true, true, true, true, false, false, false, false, false, false, false, false, false, false, false] rfl rfl (any_of HT_.out (by kernel_rfl)) (fun _ _ _ h => h) (Or.inl ⟨by rfl, ?_⟩) ?_ ?_
              rotate_left
              · intro w'
                go_simp
                with_reducible rfl
              rotate_left
              · simp only [Act.put, List.setIfInBounds_toArray, List.set_cons_zero, List.set_cons_succ, i64_w, i32_w]
                rfl
              refine pure_ (i := 4) (N := some 28) (v := ?_) (a' := ?_) #[true, true, true, true, true, false, false, false, false, false, false, false, false, false, false] rfl rfl (any_of HT_.out (by kernel_rfl)) (fun _ _ _ h => h) (Or.inl ⟨by rfl, ?_⟩) ?_ ?_
              rotate_left
              · intro w'
                go_simp
                with_reducible rfl
              rotate_left
              · simp only [Act.put, List.setIfInBounds_toArray, List.set_cons_zero, List.set_cons_succ, i64_w, i32_w]
                rfl
              refine pure_ (i := 5) (N := some 29) (v := ?_) (a' := ?_) #[true, true, true, true, true, true, false, false, false, false, false, false, false, false, false] rfl rfl (any_of HT_.out (by kernel_rfl)) (fun _ _ _ h => h) (Or.inl ⟨by rfl, ?_⟩) ?_ ?_
              rotate_left
              · intro w'
                go_simp
                with_reducible rfl
              rotate_left
              · simp only [Act.put, List.setIfInBounds_toArray, List.set_cons_zero, List.set_cons_succ, i64_w, i32_w]
                rfl
              refine pure_ (i := 6) (N := some 30) (v := ?_) (a' := ?_) #[true, true, true, true, true, true, true, false, false, false, false, false, false, false, false] rfl rfl (any_of HT_.out (by kernel_rfl)) (fun _ _ _ h => h) (Or.inl ⟨by rfl, ?_⟩) ?_ ?_
              rotate_left
              · intro w'
                go_simp
                with_reducible rfl
              rotate_left
              · simp only [Act.put, List.setIfInBounds_toArray, List.set_cons_zero, List.set_cons_succ, i64_w, i32_w]
                rfl
              refine pure_ (i := 8) (N := some 32) (v := ?_) (a' := ?_) #[true, true, true, true, true, true, true, false, true, false, false, false, false, false, false] rfl rfl (any_of HT_.out (by kernel_rfl)) (fun _ _ _ h => h) (Or.inl ⟨by rfl, ?_⟩) ?_ ?_
              rotate_left
              · intro w'
                go_simp
                with_reducible rfl
              rotate_left
              · simp only [Act.put, List.setIfInBounds_toArray, List.set_cons_zero, List.set_cons_succ, i64_w, i32_w]
                rfl
              refine pure_ (i := 9) (N := some 33) (v := ?_) (a' := ?_) #[true, true, true, true, true, true, true, false, true, true, false, false, false, false, false] rfl rfl (any_of HT_.out (by kernel_rfl)) (fun _ _ _ h => h) (Or.inl ⟨by rfl, ?_⟩) ?_ ?_
              rotate_left
              · intro w'
                go_simp
                with_reducible rfl
              rotate_left
              · simp only [Act.put, List.setIfInBounds_toArray, List.set_cons_zero, List.set_cons_succ, i64_w, i32_w]
                rfl
              refine pure_ (i := 10) (N := some 34) (v := ?_) (a' := ?_) #[true, true, true, true, true, true, true, false, true, true, true, false, false, false, false] rfl rfl (any_of HT_.out (by kernel_rfl)) (fun _ _ _ h => h) (Or.inl ⟨by rfl, ?_⟩) ?_ ?_
              rotate_left
              · intro w'
                go_simp
                with_reducible rfl
              rotate_left
              · simp only [Act.put, List.setIfInBounds_toArray, List.set_cons_zero, List.set_cons_succ, i64_w, i32_w]
                rfl
              refine pure_ (i := 11) (N := some 35) (v := ?_) (a' := ?_) #[true, true, true, true, true, true, true, false, true, true, true, true, false, false, false] rfl rfl (any_of HT_.out (by kernel_rfl)) (fun _ _ _ h => h) (Or.inl ⟨by rfl, ?_⟩) ?_ ?_
              rotate_left
              · intro w'
                go_simp
                with_reducible rfl
              rotate_left
              · simp only [Act.put, List.setIfInBounds_toArray, List.set_cons_zero, List.set_cons_succ, i64_w, i32_w]
                rfl
              refine take_ (i := 7) (N := some 31) (v := ?_) (a' := ?_) #[true, true, true, true, true, true, true, true, true, true, true, true, false, false, false] rfl rfl (take_ofW HT_.out HW_.out (by kernel_rfl)) (fun _ _ _ h => h) (Or.inl ⟨by rfl, ?_⟩) hHeld ?_ ?_
              rotate_left
              · rintro w' ⟨s0, s1⟩
                go_simp
                with_reducible rfl
              rotate_left
              · simp only [Act.put, List.setIfInBounds_toArray, List.set_cons_zero, List.set_cons_succ, i64_w, i32_w]
                rfl
              refine take_ (i := 12) (N := some 36) (v := ?_) (a' := ?_) #[true, true, true, true, true, true, true, true, true, true, true, true, true, false, false] rfl rfl (take_ofW HT_.out HW_.out (by kernel_rfl)) (fun _ _ _ h => h) (Or.inl ⟨by rfl, ?_⟩) hHeld ?_ ?_
              rotate_left
              · rintro w' ⟨s0, s1⟩
                go_simp
                with_reducible rfl
              rotate_left
              · simp only [Act.put, List.setIfInBounds_toArray, List.set_cons_zero, List.set_cons_succ, i64_w, i32_w]
                rfl
              refine pure_ (i := 13) (N := some 37) (v := ?_) (a' := ?_) #[true, true, true, true, true, true, true, true, true, true, true, true, true, true, false] rfl rfl (any_of HT_.out (by kernel_rfl)) (fun _ _ _ h => h) (Or.inl ⟨by rfl, ?_⟩) ?_ ?_
              rotate_left
              · intro w'
                go_simp
                with_reducible rfl
              rotate_left
              · simp only [Act.put, List.setIfInBounds_toArray, List.set_cons_zero, List.set_cons_succ, i64_w, i32_w]
                rfl
              refine pure_ (i := 14) (N := some 38) (v := ?_) (a' := ?_) #[true, true, true, true, true, true, true, true, true, true, true, true, true, true, true] rfl rfl (any_of HT_.out (by kernel_rfl)) (fun _ _ _ h => h) (Or.inl ⟨by rfl, ?_⟩) ?_ ?_
              rotate_left
              · intro w'
                go_simp
                with_reducible rfl
              rotate_left
              · simp only [Act.put, List.setIfInBounds_toArray, List.set_cons_zero, List.set_cons_succ, i64_w, i32_w]
                rfl
              refine done_ (done_of HT_.out (by kernel_rfl)) ?_
              go_wp2_with fail
              go_roundg (out.length - (j + 1))
              case measure => have := HNJ.out; omega
              case rel => exact ⟨j + 1, by first | rfl | (simp [hwj]; done) | rw [hwj], ⟨rfl⟩, ⟨hj⟩, ⟨fun _ P' x' e => by
                rw [HPX.out] at e
                have := List.append_inj_right' e rfl
                injection this with this _
                rw [← this]; have := HCMP.out; omega⟩, ⟨below_drew HBJ.out⟩⟩
            | true =>
              have HCMP := Lib.hid (of_decide_eq_true hcmp)
              go_wp2_with fail
              refine start_ (n := 15) (S := fun w' => w'.cell? ⟨gq, 0, none⟩ = some (.int .i64 r.f0) ∧ w'.cell? ⟨ga, j * 2 + 1, none⟩ = some (.int .i64 x.f1)) (ds := []) #[false, false, false, false, false, false, false, false, false, false, false, false, false, false, false] (by kernel_rfl) rfl rfl ⟨b0, a1⟩ (fun hHeld => ?_)
              refine with_tabW Norm_H.tab10 Norm_H.bits10 (fun HT_ HW_ => ?_)
              refine pure_ (i := 0) (N := some 24) (v := ?_) (a' := ?_) #[true, false, false, false, false, false, false, false, false, false, false, false, false, false, false] rfl rfl (any_of HT_.out (by kernel_rfl)) (fun _ _ _ h => h) (Or.inl ⟨by rfl, ?_⟩) ?_ ?_
              rotate_left
              · intro w'
                go_simp
                with_reducible rfl
              rotate_left
              · simp only [Act.put, List.setIfInBounds_toArray, List.set_cons_zero, List.set_cons_succ, i64_w, i32_w]
                rfl
              refine pure_ (i := 1) (N := some 25) (v := ?_) (a' := ?_) #[true, true, false, false, false, false, false, false, false, false, false, false, false, false, false] rfl rfl (any_of HT_.out (by kernel_rfl)) (fun _ _ _ h => h) (Or.inl ⟨by rfl, ?_⟩) ?_ ?_
              rotate_left
              · intro w'
                go_simp
                with_reducible rfl
              rotate_left
              · simp only [Act.put, List.setIfInBounds_toArray, List.set_cons_zero, List.set_cons_succ, i64_w, i32_w]
                rfl
              refine pure_ (i := 2) (N := some 26) (v := ?_) (a' := ?_) #[true, true, true, false, false, false, false, false, false, false, false, false, false, false, false] rfl rfl (any_of HT_.out (by kernel_rfl)) (fun _ _ _ h => h) (Or.inl ⟨by rfl, ?_⟩) ?_ ?_
              rotate_left
              · intro w'
                go_simp
                with_reducible rfl
              rotate_left
              · simp only [Act.put, List.setIfInBounds_toArray, List.set_cons_zero, List.set_cons_succ, i64_w, i32_w]
                rfl
              refine pure_ (i := 3) (N := some 27) (v := ?_) (a' := ?_) #[true, true, true, true, false, false, false, false, false, false, false, false, false, false, false] rfl rfl (any_of HT_.out (by kernel_rfl)) (fun _ _ _ h => h) (Or.inl ⟨by rfl, ?_⟩) ?_ ?_
              rotate_left
              · intro w'
                go_simp
                with_reducible rfl
              rotate_left
              · simp only [Act.put, List.setIfInBounds_toArray, List.set_cons_zero, List.set_cons_succ, i64_w, i32_w]
                rfl
              refine pure_ (i := 4) (N := some 28) (v := ?_) (a' := ?_) #[true, true, true, true, true, false, false, false, false, false, false, false, false, false, false] rfl rfl (any_of HT_.out (by kernel_rfl)) (fun _ _ _ h => h) (Or.inl ⟨by rfl, ?_⟩) ?_ ?_
              rotate_left
              · intro w'
                go_simp
                with_reducible rfl
              rotate_left
              · simp only [Act.put, List.setIfInBounds_toArray, List.set_cons_zero, List.set_cons_succ, i64_w, i32_w]
                rfl
              refine pure_ (i := 5) (N := some 29) (v := ?_) (a' := ?_) #[true, true, true, true, true, true, false, false, false, false, false, false, false, false, false] rfl rfl (any_of HT_.out (by kernel_rfl)) (fun _ _ _ h => h) (Or.inl ⟨by rfl, ?_⟩) ?_ ?_
              rotate_left
              · intro w'
                go_simp
                with_reducible rfl
              rotate_left
              · simp only [Act.put, List.setIfInBounds_toArray, List.set_cons_zero, List.set_cons_succ, i64_w, i32_w]
                rfl
              refine pure_ (i := 6) (N := some 30) (v := ?_) (a' := ?_) #[true, true, true, true, true, true, true, false, false, false, false, false, false, false, false] rfl rfl (any_of HT_.out (by kernel_rfl)) (fun _ _ _ h => h) (Or.inl ⟨by rfl, ?_⟩) ?_ ?_
              rotate_left
              · intro w'
                go_simp
                with_reducible rfl
              rotate_left
              · simp only [Act.put, List.setIfInBounds_toArray, List.set_cons_zero, List.set_cons_succ, i64_w, i32_w]
                rfl
              refine pure_ (i := 8) (N := some 32) (v := ?_) (a' := ?_) #[true, true, true, true, true, true, true, false, true, false, false, false, false, false, false] rfl rfl (any_of HT_.out (by kernel_rfl)) (fun _ _ _ h => h) (Or.inl ⟨by rfl, ?_⟩) ?_ ?_
              rotate_left
              · intro w'
                go_simp
                with_reducible rfl
              rotate_left
              · simp only [Act.put, List.setIfInBounds_toArray, List.set_cons_zero, List.set_cons_succ, i64_w, i32_w]
                rfl
              refine pure_ (i := 9) (N := some 33) (v := ?_) (a' := ?_) #[true, true, true, true, true, true, true, false, true, true, false, false, false, false, false] rfl rfl (any_of HT_.out (by kernel_rfl)) (fun _ _ _ h => h) (Or.inl ⟨by rfl, ?_⟩) ?_ ?_
              rotate_left
              · intro w'
                go_simp
                with_reducible rfl
              rotate_left
              · simp only [Act.put, List.setIfInBounds_toArray, List.set_cons_zero, List.set_cons_succ, i64_w, i32_w]
                rfl
              refine pure_ (i := 10) (N := some 34) (v := ?_) (a' := ?_) #[true, true, true, true, true, true, true, false, true, true, true, false, false, false, false] rfl rfl (any_of HT_.out (by kernel_rfl)) (fun _ _ _ h => h) (Or.inl ⟨by rfl, ?_⟩) ?_ ?_
              rotate_left
              · intro w'
                go_simp
                with_reducible rfl
              rotate_left
              · simp only [Act.put, List.setIfInBounds_toArray, List.set_cons_zero, List.set_cons_succ, i64_w, i32_w]
                rfl
              refine pure_ (i := 11) (N := some 35) (v := ?_) (a' := ?_) #[true, true, true, true, true, true, true, false, true, true, true, true, false, false, false] rfl rfl (any_of HT_.out (by kernel_rfl)) (fun _ _ _ h => h) (Or.inl ⟨by rfl, ?_⟩) ?_ ?_
              rotate_left
              · intro w'
                go_simp
                with_reducible rfl
              rotate_left
              · simp only [Act.put, List.setIfInBounds_toArray, List.set_cons_zero, List.set_cons_succ, i64_w, i32_w]
                rfl
              refine take_ (i := 7) (N := some 31) (v := ?_) (a' := ?_) #[true, true, true, true, true, true, true, true, true, true, true, true, false, false, false] rfl rfl (take_ofW HT_.out HW_.out (by kernel_rfl)) (fun _ _ _ h => h) (Or.inl ⟨by rfl, ?_⟩) hHeld ?_ ?_
              rotate_left
              · rintro w' ⟨s0, s1⟩
                go_simp
                with_reducible rfl
              rotate_left
              · simp only [Act.put, List.setIfInBounds_toArray, List.set_cons_zero, List.set_cons_succ, i64_w, i32_w]
                rfl
              refine take_ (i := 12) (N := some 36) (v := ?_) (a' := ?_) #[true, true, true, true, true, true, true, true, true, true, true, true, true, false, false] rfl rfl (take_ofW HT_.out HW_.out (by kernel_rfl)) (fun _ _ _ h => h) (Or.inl ⟨by rfl, ?_⟩) hHeld ?_ ?_
              rotate_left
              · rintro w' ⟨s0, s1⟩
                go_simp
                with_reducible rfl
              rotate_left
              · simp only [Act.put, List.setIfInBounds_toArray, List.set_cons_zero, List.set_cons_succ, i64_w, i32_w]
                rfl
              refine pure_ (i := 13) (N := some 37) (v := ?_) (a' := ?_) #[true, true, true, true, true, true, true, true, true, true, true, true, true, true, false] rfl rfl (any_of HT_.out (by kernel_rfl)) (fun _ _ _ h => h) (Or.inl ⟨by rfl, ?_⟩) ?_ ?_
              rotate_left
              · intro w'
                go_simp
                with_reducible rfl
              rotate_left
              · simp only [Act.put, List.setIfInBounds_toArray, List.set_cons_zero, List.set_cons_succ, i64_w, i32_w]
                rfl
              refine pure_ (i := 14) (N := some 38) (v := ?_) (a' := ?_) #[true, true, true, true, true, true, true, true, true, true, true, true, true, true, true] rfl rfl (any_of HT_.out (by kernel_rfl)) (fun _ _ _ h => h) (Or.inl ⟨by rfl, ?_⟩) ?_ ?_
              rotate_left
              · intro w'
                go_simp
                with_reducible rfl
              rotate_left
              · simp only [Act.put, List.setIfInBounds_toArray, List.set_cons_zero, List.set_cons_succ, i64_w, i32_w]
                rfl
              refine done_ (done_of HT_.out (by kernel_rfl)) ?_
              go_wp2_with fail
              refine start_ (n := 13) (S := fun w' => w'.cell? ⟨ga, j * 2 + 1, none⟩ = some (.int .i64 x.f1) ∧ w'.cell? ⟨gq, 1, none⟩ = some (.int .i64 r.f1)) (ds := [12]) #[false, false, false, false, false, false, false, false, false, false, false, false, false] (by kernel_rfl) rfl rfl ⟨a1, b1⟩ (fun hHeld => ?_)
              refine with_tabW Norm.tab11 Norm.bits11 (fun HT_ HW_ => ?_)
              refine pure_ (i := 0) (N := some 39) (v := ?_) (a' := ?_) #[true, false, false, false, false, false, false, false, false, false, false, false, false] rfl rfl (any_of HT_.out (by kernel_rfl)) (fun _ _ _ h => h) (Or.inl ⟨by rfl, ?_⟩) ?_ ?_
              rotate_left
              · intro w'
                go_simp
                with_reducible rfl
              rotate_left
              · simp only [Act.put, List.setIfInBounds_toArray, List.set_cons_zero, List.set_cons_succ, i64_w, i32_w]
                rfl
              refine pure_ (i := 1) (N := some 40) (v := ?_) (a' := ?_) #[true, true, false, false, false, false, false, false, false, false, false, false, false] rfl rfl (any_of HT_.out (by kernel_rfl)) (fun _ _ _ h => h) (Or.inl ⟨by rfl, ?_⟩) ?_ ?_
              rotate_left
              · intro w'
                go_simp
                with_reducible rfl
              rotate_left
              · simp only [Act.put, List.setIfInBounds_toArray, List.set_cons_zero, List.set_cons_succ, i64_w, i32_w]
                rfl
              refine pure_ (i := 2) (N := some 41) (v := ?_) (a' := ?_) #[true, true, true, false, false, false, false, false, false, false, false, false, false] rfl rfl (any_of HT_.out (by kernel_rfl)) (fun _ _ _ h => h) (Or.inl ⟨by rfl, ?_⟩) ?_ ?_
              rotate_left
              · intro w'
                go_simp
                with_reducible rfl
              rotate_left
              · simp only [Act.put, List.setIfInBounds_toArray, List.set_cons_zero, List.set_cons_succ, i64_w, i32_w]
                rfl
              refine pure_ (i := 3) (N := some 42) (v := ?_) (a' := ?_) #[true, true, true, true, false, false, false, false, false, false, false, false, false] rfl rfl (any_of HT_.out (by kernel_rfl)) (fun _ _ _ h => h) (Or.inl ⟨by rfl, ?_⟩) ?_ ?_
              rotate_left
              · intro w'
                go_simp
                with_reducible rfl
              rotate_left
              · simp only [Act.put, List.setIfInBounds_toArray, List.set_cons_zero, List.set_cons_succ, i64_w, i32_w]
                rfl
              refine pure_ (i := 4) (N := some 43) (v := ?_) (a' := ?_) #[true, true, true, true, true, false, false, false, false, false, false, false, false] rfl rfl (any_of HT_.out (by kernel_rfl)) (fun _ _ _ h => h) (Or.inl ⟨by rfl, ?_⟩) ?_ ?_
              rotate_left
              · intro w'
                go_simp
                with_reducible rfl
              rotate_left
              · simp only [Act.put, List.setIfInBounds_toArray, List.set_cons_zero, List.set_cons_succ, i64_w, i32_w]
                rfl
              refine pure_ (i := 5) (N := some 44) (v := ?_) (a' := ?_) #[true, true, true, true, true, true, false, false, false, false, false, false, false] rfl rfl (any_of HT_.out (by kernel_rfl)) (fun _ _ _ h => h) (Or.inl ⟨by rfl, ?_⟩) ?_ ?_
              rotate_left
              · intro w'
                go_simp
                with_reducible rfl
              rotate_left
              · simp only [Act.put, List.setIfInBounds_toArray, List.set_cons_zero, List.set_cons_succ, i64_w, i32_w]
                rfl
              refine pure_ (i := 7) (N := some 46) (v := ?_) (a' := ?_) #[true, true, true, true, true, true, false, true, false, false, false, false, false] rfl rfl (any_of HT_.out (by kernel_rfl)) (fun _ _ _ h => h) (Or.inl ⟨by rfl, ?_⟩) ?_ ?_
              rotate_left
              · intro w'
                go_simp
                with_reducible rfl
              rotate_left
              · simp only [Act.put, List.setIfInBounds_toArray, List.set_cons_zero, List.set_cons_succ, i64_w, i32_w]
                rfl
              refine take_ (i := 6) (N := some 45) (v := ?_) (a' := ?_) #[true, true, true, true, true, true, true, true, false, false, false, false, false] rfl rfl (take_ofW HT_.out HW_.out (by kernel_rfl)) (fun _ _ _ h => h) (Or.inl ⟨by rfl, ?_⟩) hHeld ?_ ?_
              rotate_left
              · rintro w' ⟨s0, s1⟩
                go_simp
                with_reducible rfl
              rotate_left
              · simp only [Act.put, List.setIfInBounds_toArray, List.set_cons_zero, List.set_cons_succ, i64_w, i32_w]
                rfl
              refine take_ (i := 8) (N := some 47) (v := ?_) (a' := ?_) #[true, true, true, true, true, true, true, true, true, false, false, false, false] rfl rfl (take_ofW HT_.out HW_.out (by kernel_rfl)) (fun _ _ _ h => h) (Or.inl ⟨by rfl, ?_⟩) hHeld ?_ ?_
              rotate_left
              · rintro w' ⟨s0, s1⟩
                go_simp
                with_reducible rfl
              rotate_left
              · simp only [Act.put, List.setIfInBounds_toArray, List.set_cons_zero, List.set_cons_succ, i64_w, i32_w]
                rfl
              refine pure_ (i := 9) (N := some 48) (v := ?_) (a' := ?_) #[true, true, true, true, true, true, true, true, true, true, false, false, false] rfl rfl (any_of HT_.out (by kernel_rfl)) (fun _ _ _ h => h) (Or.inl ⟨by rfl, ?_⟩) ?_ ?_
              rotate_left
              · intro w'
                go_simp
                with_reducible rfl
              rotate_left
              · simp only [Act.put, List.setIfInBounds_toArray, List.set_cons_zero, List.set_cons_succ, i64_w, i32_w]
                rfl
              refine pure_ (i := 10) (N := some 49) (v := ?_) (a' := ?_) #[true, true, true, true, true, true, true, true, true, true, true, false, false] rfl rfl (any_of HT_.out (by kernel_rfl)) (fun _ _ _ h => h) (Or.inl ⟨by rfl, ?_⟩) ?_ ?_
              rotate_left
              · intro w'
                go_simp
                with_reducible rfl
              rotate_left
              · simp only [Act.put, List.setIfInBounds_toArray, List.set_cons_zero, List.set_cons_succ, i64_w, i32_w]
                rfl
              refine pure_ (i := 11) (N := some 50) (v := ?_) (a' := ?_) #[true, true, true, true, true, true, true, true, true, true, true, true, false] rfl rfl (any_of HT_.out (by kernel_rfl)) (fun _ _ _ h => h) (Or.inl ⟨by rfl, ?_⟩) ?_ ?_
              rotate_left
              · intro w'
                go_simp
                with_reducible rfl
              rotate_left
              · simp only [Act.put, List.setIfInBounds_toArray, List.set_cons_zero, List.set_cons_succ, i64_w, i32_w]
                rfl
              refine last_ (i := 12) (N := none) #[true, true, true, true, true, true, true, true, true, true, true, true, true] rfl rfl (one_of HT_.out (by kernel_rfl)) (by decide) (fun K hK => ?_)
              refine skip_ (w1 := ?_) (by rfl) rfl ?_ ?_
              rotate_left
              · go_simp
                rfl
              refine hK.out _ _ ?_
              clear hK K
              refine done_ (done_of HT_.out (by kernel_rfl)) ?_
              go_wp2_with fail
              obtain ⟨hs1, hg1⟩ := HSEG.out (max x.f1 r.f1)
              rw [Int.toNat_natCast] at hs1 hg1
              have hrow : layAll (s.take (i + 1)) = out.set j ⟨x.f0, max x.f1 r.f1⟩ := by
                rw [HST.out, HPX.out, lay_snoc, if_pos HCMP.out, ← HPL.out, set_last]
              go_roundg (s.length - (i + 1))
              case measure => have := HN.out; omega
              case rel => exact ⟨i + 1, by first | rfl | (simp [hwr]; done) | rw [hwr], ⟨rfl⟩, ⟨hi⟩, ⟨by rw [hrow]; exact Kd.R_below hs1 (below_drew (below_drew (Below.refl _ _)))⟩, ⟨Kd.R_below (R29_grown HSJ.out hg1 (fun k hk => by intro he; exact HAP.out ga rfl (hk.trans he))) (below_drew (below_drew (Below.refl _ _)))⟩, HAP, ⟨below_drew (below_drew (HBW.out.grown hg1 HBW.out.size (fun k hk => by cases hk; exact HGAL.out)))⟩⟩
        · have hge : ¬ (j : Int) < (out.length : Int) := by omega
          have hje : j = out.length := by have := HJ.out; omega
          have hrow := HST.out
          rw [lay_far (HLAST.out hje)] at hrow
          have HROW := Lib.hid hrow
          clear hrow hje HLAST
          go_wp2_with (at_builtin; refine (Kd.R_append k29 (w0 := w) w.heap.size rfl (.tmp 52) (.tmp 54) 42 29 (.agg #[.int .i64 0, .int .i64 0]) 16 rfl Try.underlying42 info29 rfl (by decide) (by omega) (.slice A4 out.length c4) out r [.int .i64 r.f0, .int .i64 r.f1] (fun _ => True) (fun _ => False) rfl ?aX ?aP (fun _ hk => hk.elim) ?aF ?aO ?aB ?aS ?aL ?_); (case aX => first | rfl | (go_simp; done) | (simp; done)); (case aP => exact k29_mkM _ _ _ r); (case aF => exact (fun _ _ => trivial)); (case aO => exact HOJ.out); (case aB => exact HBW.out); (case aS => exact HBW.out.size); (case aL => have := hol; omega); intro v5 w5 hR5 hB5 hg5 hat5; have HR5 := Lib.hid hR5; have HB5 := Lib.hid hB5; have HG5 := Lib.hid hg5; have HA5 := Lib.hid hat5; clear hR5 hB5 hg5 hat5)
          go_roundg (s.length - (i + 1))
          case measure => have := HN.out; omega
          case rel => exact ⟨i + 1, by first | rfl | (simp [hwr]; done) | rw [hwr], ⟨rfl⟩, ⟨hi⟩, ⟨by rw [HROW.out]; exact HR5.out⟩, ⟨R29_grown HSJ.out HG5.out (fun k hk he => HAP.out k he.symm hk)⟩, ⟨fun k hk he => by
            rcases HA5.out with h1 | ⟨b, h1, h2⟩
            · exact HAP.out k (h1.symm.trans hk) he
            · have h3 := Kd.R_lt HSJ.out k he
              rw [h1] at hk; cases hk; omega⟩, ⟨HB5.out⟩⟩
    · have hge : ¬ (i : Int) < (s.length : Int) := by omega
      have hie : i = s.length := by have := HI.out; omega
      have ho := HO.out
      rw [hie, List.take_length, HNE.out] at ho
      have HOF := Lib.hid ho
      clear ho HO hie
      go_wp2
      try rw [Exit.noGoto_ret]
      go_ret
      exact ⟨_, rfl, HOF.out, HB.out⟩
end Rg
end Go.Proofs.Ytiinmagnpkfbbaa
