/- A fetch, and the document's fetch, side by side. -/
import Derived.Test.YtgagcimfkmegnaaPView
import Derived.Test.YtgagcimfkmegnaaPRHear
section
set_option maxHeartbeats 4000000
set_option maxRecDepth 100000
namespace Go.Proofs.Ytgagcimfkmegnaa
set_option linter.unusedVariables false
set_option linter.unusedSimpArgs false
open Go.RowKit Go.Proofs.YtgagcimfkmegnaaW.PrintWords Go.Proofs.YtgagcimfkmegnaaW.PrintLast Go.Proofs.YtgagcimfkmegnaaW.PrintMore Go.Proofs.Ytgagcimfkmegnaa.QT
namespace Ps
theorem info65b : (Try.prog.info? 65).map (fun i => (i.zero, i.size, i.bytes)) = some (some (.agg #[.string ⟨#[]⟩, .slice none 0 0]), 2, 40) := by kernel_rfl
theorem one_rowS {X : World} {x : S65} {u v : Value} {q : Nat} (hX : X.heap[q]? = some (.cells #[u, v] 65 (0, 0))) : ReadsRow (fun y ds => y = x ∧ ds = [u, v]) 2 X (some ⟨q, 0, none⟩) 1 [x] := by
 refine ⟨rfl, by simp, fun _ => ⟨_, rfl, fun j p hj => ?_⟩⟩
 match j, hj with
 | 0, hj =>
  simp at hj
  subst hj; refine ⟨[u, v], rfl, (show _ ∧ _ from ⟨rfl, rfl⟩), fun i w hw => ?_⟩
  match i, hw with
  | 0, hw => simp at hw; subst hw; exact (blk_cell hX 0).trans rfl
  | 1, hw => simp at hw; subst hw; exact (blk_cell hX 1).trans rfl
theorem view_calls (w : World) (A : Option Addr) (c : Nat) (l : List Pt) (hC : Kd.C k42 w A l.length l) (hc : l.length ≤ c) (hl : l.length ≤ 1000000) :
  Calls Try.prog 22 #[.slice A l.length c] w fun e w' => ∃ v : Value, e = .returned v ∧ Kd.R k42 42 w' w.heap.size (fun _ => True) v (Vw.view l) ∧ Below w.heap.size w w' := by
 obtain ⟨k, hk⟩ := (Vw.view_ref l (by omega)).rounds; exact thermographref06_View.calls k A c l _ w hC hc hk
def vs (s : S65) : S65 := ⟨s.f0, Vw.view s.f1⟩
theorem map_take {l : List S65} {i : Nat} (h : i < l.length) : (l.take (i + 1)).map vs = (l.take i).map vs ++ [vs l[i]] := by
 rw [List.take_succ_eq_append_getElem h, List.map_append]; rfl
theorem rdS {l : List S65} {i : Nat} (h : i < l.length) : rd_T65 l (i : Int) = l[i] := by
 unfold rd_T65; rw [Int.toNat_natCast, List.getD_eq_getElem?_getD, List.getElem?_eq_getElem h]; rfl
def PRSer5.T5 : Bool × List (List Nat × List Nat) := (true, [([], []), ([], []), ([1], [1]), ([2], [2]), ([3], [3]), ([], []), ([4, 5], [4, 5]), ([6], [6]), ([7], [7]), ([], []), ([9], [9]), ([10], [10]), ([11], [11]), ([], []), ([12, 13], [12, 13]), ([14], [14]), ([15], [15]), ([16], [16]), ([8, 17], [8, 17]), ([18], [18]), ([0, 19, 17], [0, 19]), ([20, 20, 0, 1, 2, 3, 4, 5, 6, 7, 8, 9, 10, 11, 12, 13, 14, 15, 16, 17, 18, 19, 20], [0, 20])])
def PRSer5.B5 : List Nat := [0, 0, 2, 6, 14, 0, 62, 126, 254, 0, 512, 1536, 3584, 0, 15872, 32256, 65024, 130560, 262142, 524286, 1048575, 2097151]
theorem PRSer5.tab5 : rtab .any (opsOf Try.f21 5) = PRSer5.T5 := by kernel_rfl
theorem PRSer5.bits5 : waitsOk PRSer5.T5.2 PRSer5.B5 = true := by kernel_rfl
theorem rseries_calls (w : World) (B g : Nat) (vL vS : Value) (x : Fx) (a : Fa) (S : List S65) (Q : Nat → Prop) (hI : RIs w B g vL vS x a) (hV : Kd.V k65 65 w 0 Q vS S) (hS : Lens S 1000000) :
  Calls Try.prog 21 #[.pointer (some ⟨g, 0, none⟩)] w fun e w' => ∃ v : Value, e = .returned v ∧ Kd.R k65 65 w' w.heap.size (fun _ => True) v (S.map vs) ∧ Below w.heap.size w w' := by
 obtain ⟨AS, cS, rfl⟩ := Kd.V_slice hV; have HFB := Lib.hid hI.blk; have HC := Lib.hid (Kd.V_reads' hV).2.2; have HS := Lib.hid hS; clear hI hV hS; go_enter Try.func21, Try.ntmps21
 go_wp2_with ((with_reducible refine gate_dst (N := 5) rfl ?_); refine Kd.R_lit k65 (w0 := w) w.heap.size 65 ?hg (N := 5) ?hd (xs := ([] : List S65)) (inner := []) (ok := fun _ => True) (okp := fun _ => True) ?hr ?hp (fun _ hk => hk) ?hf (Below.refl _ _) (Nat.le_refl _) (by simp) ?_; (case hd => rfl); (case hg => rfl); (case hr => go_simp; done); (case hp => exact (Reps.none _ _)); (case hf => exact trivial); intro v3 w3 hR3 hB3 hg3 hn3; have HR3 := Lib.hid hR3; have HB3 := Lib.hid hB3; clear hR3 hB3 hg3 hn3)
 go_loopg [3, 4] S.length (fun gn v3 v4 wr => ∃ (i : Nat), v4 = .int .i64 (i : Int) ∧ Aside0 (gn = S.length - i) ∧ Aside0 (i ≤ S.length) ∧ Aside0 (Kd.R k65 65 wr w.heap.size (fun _ => True) v3 ((S.take i).map vs)) ∧ Aside0 (Below w.heap.size w wr))
 case atStart => exact ⟨0, rfl, ⟨rfl⟩, ⟨Nat.zero_le _⟩, ⟨HR3.out⟩, ⟨HB3.out⟩⟩
 case round =>
  clear HR3 HB3; obtain ⟨i, rfl, HN, HI, HR, HB⟩ := hrel; have q13 : wr.cell? ⟨g, 13, none⟩ = some (.slice AS S.length cS) := (blk_cell (blk_below HFB.out HB.out) 13).trans rfl
  by_cases hi : i < S.length
  ·
   have hi0 : (i : Int) < (S.length : Int) := by omega
   have hz : (0 : Int) ≤ (i : Int) := by omega
   have hwi : wrap64 ((i : Int) + 1) = ((i + 1 : Nat) : Int) := by have := HS.out.1; unfold wrap64; omega
   obtain ⟨ad, A1, c1, e1, s0, s1, hle, hC1⟩ := at_T65 (Kd.C_below HC.out HB.out) (i : Int) hz hi0; cases e1
   obtain ⟨s, hs⟩ : ∃ s, rd_T65 S (i : Int) = s := ⟨_, rfl⟩
   rw [hs] at s0 s1 hle hC1; rw [Int.toNat_natCast] at s0 s1; have hst := map_take hi; rw [show S[i] = s by rw [← hs, rdS hi]] at hst; have hsl : s.f1.length ≤ 1000000 := HS.out.2 s (by rw [← hs, rdS hi]; exact List.getElem_mem hi); have HVW := Lib.hid (fun W (hW : Below wr.heap.size wr W) => view_calls W A1 c1 s.f1 (Kd.C_below hC1 hW) hle hsl); have HST := Lib.hid hst; have HIN := Lib.hid (show ∀ k, k = S.length - i → S.length - (i + 1) < k by intro k hk; omega)
   obtain ⟨O, hO⟩ : ∃ O, (S.take i).map vs = O := ⟨_, rfl⟩
   have HLO := Lib.hid (show (O.length + 1) * 40 ≤ 140737488355328 by rw [← hO, List.length_map, List.length_take]; have := HS.out.1; omega); have hRR := HR.out; rw [hO] at HST hRR; obtain ⟨A6, c6, rfl⟩ := Kd.R_slice hRR; have HRR := Lib.hid hRR; clear hs hst hsl hO hRR HR hle hC1; go_wp2_with fail
   refine start_ (n := 22) (S := fun w' => w'.cell? ⟨g, 13, none⟩ = some (.slice (some ad) S.length cS) ∧ w'.cell? (ad.add (i * 2)) = some (.string s.f0) ∧ w'.cell? ⟨(ad.add (i * 2)).block, (ad.add (i * 2)).off + 1, none⟩ = some (.slice A1 s.f1.length c1)) (ds := [20]) (bs 22 0) (by kernel_rfl) rfl rfl ⟨q13, s0, s1⟩ (fun hHeld => ?_); refine with_tabW PRSer5.tab5 PRSer5.bits5 (fun HT_ HW_ => ?_); apply pv 0 15 (bs 22 1) HT_; rfl; rfl; kernel_rfl; exact qq; rfl; intro w'; go_simp; with_reducible rfl; simp only [zz]; rfl
   apply pv 1 16 (bs 22 3) HT_; rfl; rfl; kernel_rfl; exact qq; rfl; intro w'; go_simp; with_reducible rfl; simp only [zz]; rfl
   apply pv 2 17 (bs 22 7) HT_; rfl; rfl; kernel_rfl; exact qq; rfl; intro w'; go_simp; with_reducible rfl; simp only [zz]; rfl
   apply pv 3 18 (bs 22 15) HT_; rfl; rfl; kernel_rfl; exact qq; rfl; intro w'; go_simp; with_reducible rfl; simp only [zz]; rfl
   apply pv 5 20 (bs 22 47) HT_; rfl; rfl; kernel_rfl; exact qq; rfl; intro w'; go_simp; with_reducible rfl; simp only [zz]; rfl
   apply pv 9 24 (bs 22 559) HT_; rfl; rfl; kernel_rfl; exact qq; rfl; intro w'; go_simp; with_reducible rfl; simp only [zz]; rfl
   apply pv 10 25 (bs 22 1583) HT_; rfl; rfl; kernel_rfl; exact qq; rfl; intro w'; go_simp; with_reducible rfl; simp only [zz]; rfl
   apply pv 11 26 (bs 22 3631) HT_; rfl; rfl; kernel_rfl; exact qq; rfl; intro w'; go_simp; with_reducible rfl; simp only [zz]; rfl
   apply pv 13 28 (bs 22 11823) HT_; rfl; rfl; kernel_rfl; exact qq; rfl; intro w'; go_simp; with_reducible rfl; simp only [zz]; rfl
   apply tb 4 19 (bs 22 11839) HT_ HW_ hHeld; rfl; rfl; kernel_rfl; exact qq; rfl; rintro w' ⟨s0, s1, s2⟩; go_simp; with_reducible rfl; simp only [zz]; rfl
   apply pv 6 21 (bs 22 11903) HT_; rfl; rfl; kernel_rfl; exact qq; rfl; intro w'; go_simp; with_reducible rfl; simp only [zz]; rfl
   apply pv 7 22 (bs 22 12031) HT_; rfl; rfl; kernel_rfl; exact qq; rfl; intro w'; go_simp; with_reducible rfl; simp only [zz]; rfl
   apply tb 8 23 (bs 22 12287) HT_ HW_ hHeld; rfl; rfl; kernel_rfl; exact qq; rfl; rintro w' ⟨s0, s1, s2⟩; go_simp; with_reducible rfl; simp only [zz]; rfl
   apply tb 12 27 (bs 22 16383) HT_ HW_ hHeld; rfl; rfl; kernel_rfl; exact qq; rfl; rintro w' ⟨s0, s1, s2⟩; go_simp; with_reducible rfl; simp only [zz]; rfl
   apply pv 14 29 (bs 22 32767) HT_; rfl; rfl; kernel_rfl; exact qq; rfl; intro w'; go_simp; with_reducible rfl; simp only [zz]; rfl
   apply pv 15 30 (bs 22 65535) HT_; rfl; rfl; kernel_rfl; exact qq; rfl; intro w'; go_simp; with_reducible rfl; simp only [zz]; rfl
   apply tb 16 31 (bs 22 131071) HT_ HW_ hHeld; rfl; rfl; kernel_rfl; exact qq; rfl; rintro w' ⟨s0, s1, s2⟩; go_simp; with_reducible rfl; simp only [zz]; rfl
   refine one_ (i := 17) (N := some 32) (bs 22 262143) rfl rfl (one_of HT_.out (by kernel_rfl)) (by decide) (fun K hK => ?_); refine goes_ Try.func22 (by kernel_rfl) rfl #[.slice A1 s.f1.length c1] (by rfl) rfl rfl (by simp only [List.map_toArray, List.map_cons, List.map_nil]; rfl) ?_; with_reducible refine ((HVW.out _ (below_drew (Below.refl _ _)))).mono ?_
   rintro e w5 ⟨v5, rfl, hR5, hb5⟩; refine ⟨_, rfl, ?_⟩; have HB5 := Lib.hid (show Below wr.heap.size wr w5 from below_then (below_drew (Below.refl _ _)) (Nat.le_refl _) hb5); obtain ⟨A5, c5, rfl⟩ := Kd.R_slice hR5; have HR5B := Lib.hid (Kd.R_base hR5); have HR5 := Lib.hid (Kd.R_lower hR5 HB.out.size); clear hR5 hb5; have HOK := Lib.hid (show ∀ k, (Value.slice A5 (Vw.view s.f1).length c5).ownBlock = some k → True ∧ some k ≠ (Value.slice A6 O.length c6).ownBlock from fun k hk => ⟨trivial, fun e => by have h1 := Kd.R_lt HRR.out k e.symm; have h3 := HR5B.out k hk; have h4 : wr.heap.size ≤ k := h3; omega⟩); refine hK.out _ _ ⟨(pw_cell_below HB5.out q13), (pw_cell_below HB5.out s0), (pw_cell_below HB5.out s1)⟩ (fun hHeld => ?_); clear hK K; refine norm_ (a' := ?_) ?_ ?_; rotate_left
   ·
    show Act.put _ (some 32) _ = _; simp only [Act.put, List.setIfInBounds_toArray, List.set_cons_zero, List.set_cons_succ, i64_w, i32_w]; rfl
   apply pv 18 33 (bs 22 524287) HT_; rfl; rfl; kernel_rfl; exact qq; rfl; intro w'; go_simp; with_reducible rfl; simp only [zz]; rfl
   refine one_ (i := 19) (N := some 34) (bs 22 1048575) rfl rfl (one_of HT_.out (by kernel_rfl)) (by decide) (fun K hK => ?_); refine value_ (w1 := ?_) (v := ?_) (by rfl) rfl ?_ ?_; rotate_left 2
   ·
    go_simp
    constructor
    ·
     rfl
    ·
     rfl
   have hBX := below_alloc (Below.refl w5.heap.size w5) (.cells #[.string s.f0, .slice A5 (Vw.view s.f1).length c5] 65)
   obtain ⟨gl, hgl⟩ : ∃ gl, gl = w5.heap.size := ⟨_, rfl⟩
   have hbl : (w5.alloc (.cells #[.string s.f0, .slice A5 (Vw.view s.f1).length c5] 65)).heap[gl]? = some (.cells #[.string s.f0, .slice A5 (Vw.view s.f1).length c5] 65 (0, 0)) := by rw [hgl]; exact blk_new w5 _
   obtain ⟨X1, hX1⟩ : ∃ X1 : World, X1 = (w5.alloc (.cells #[.string s.f0, .slice A5 (Vw.view s.f1).length c5] 65)) := ⟨_, rfl⟩
   rw [← hX1] at hbl hBX; rw [← hX1, ← hgl]; have HX1 := Lib.hid (And.intro hbl hBX); have HBX := Lib.hid (below_then HB.out HB.out.size (below_then HB5.out HB5.out.size hBX)); clear hbl hBX hX1 hgl; refine hK.out _ _ ⟨(pw_cell_below HX1.out.2 (pw_cell_below HB5.out q13)), (pw_cell_below HX1.out.2 (pw_cell_below HB5.out s0)), (pw_cell_below HX1.out.2 (pw_cell_below HB5.out s1))⟩ (fun hHeld => ?_); clear hK K; refine norm_ (a' := ?_) ?_ ?_; rotate_left
   ·
    show Act.put _ (some 34) _ = _; simp only [Act.put, List.setIfInBounds_toArray, List.set_cons_zero, List.set_cons_succ, i64_w, i32_w]; rfl
   refine last_ (i := 20) (N := some 35) (bs 22 2097151) rfl rfl (one_of HT_.out (by kernel_rfl)) (by decide) (fun K hK => ?_); refine Kd.R_append_rows_step k65 (Rr := fun y ds => y = (⟨s.f0, Vw.view s.f1⟩ : S65) ∧ ds = [.string s.f0, .slice A5 (Vw.view s.f1).length c5]) (w0 := w) w.heap.size (by rfl) (.tmp 15) (.tmp 34) 58 65 (.agg #[.string ⟨#[]⟩, .slice none 0 0]) 40 (by rfl) Try.underlying58 info65b (by rfl) (by decide) (by decide) (.slice A6 O.length c6) O [⟨s.f0, Vw.view s.f1⟩] (some ⟨gl, 0, none⟩) 1 1 (fun _ => True) (fun k => (Value.slice A5 (Vw.view s.f1).length c5).ownBlock = some k) (by rfl) (by rfl) (Kd.R_below (Kd.R_below HRR.out HB5.out) HX1.out.2) (one_rowS HX1.out.1) (fun y ds hy => by obtain ⟨rfl, rfl⟩ := hy; exact k65_mkM _ _ _ _ (Hm.R97 (Kd.R_below HR5.out HX1.out.2) (ok' := fun k => (Value.slice A5 (Vw.view s.f1).length c5).ownBlock = some k) (fun k hk => hk))) (fun k hk => HOK.out k hk) (fun _ _ => trivial) HBX.out HBX.out.size (by have := HLO.out; omega) ?_; intro v6 w6 hR6 hB6 hg6 hat6; have HR6 := Lib.hid hR6; have HB6 := Lib.hid hB6; clear hR6 hB6 hg6 hat6; refine hK.out _ _ ?_; clear hK K; refine norm_ (a' := ?_) ?_ ?_; rotate_left
   ·
    show Act.put _ (some 35) _ = _; simp only [Act.put, List.setIfInBounds_toArray, List.set_cons_zero, List.set_cons_succ, i64_w, i32_w]; rfl
   apply pv 21 3 (bs 22 4194303) HT_; rfl; rfl; kernel_rfl; exact qq; rfl; intro w'; go_simp; with_reducible rfl; simp only [zz]; rfl
   refine done_ (done_of HT_.out (by kernel_rfl)) ?_; clear q13 s0 s1; go_wp2; go_roundg (S.length - (i + 1))
   case measure => go_light; exact HIN.out _ HN.out
   case rel => exact ⟨i + 1, by (simp [hwi]; done), ⟨rfl⟩, ⟨hi⟩, ⟨by rw [HST.out]; exact HR6.out⟩, ⟨HB6.out⟩⟩
  ·
   have hge : ¬ (i : Int) < (S.length : Int) := by omega
   have hie : i = S.length := by have := HI.out; omega
   have hR9 := HR.out; rw [hie, List.take_length] at hR9; have HR9 := Lib.hid hR9; clear hie hR9 HR; go_wp2; go_ret; exact ⟨_, rfl, HR9.out, HB.out⟩
end Ps
end Go.Proofs.Ytgagcimfkmegnaa
end
section
namespace Go.Proofs.Ytgagcimfkmegnaa
set_option linter.unusedVariables false
set_option linter.unusedSimpArgs false
open Go.RowKit Go.Proofs.YtgagcimfkmegnaaW.PrintWords Go.Proofs.YtgagcimfkmegnaaW.PrintLast Go.Proofs.YtgagcimfkmegnaaW.PrintMore Go.Proofs.Ytgagcimfkmegnaa.QT
namespace Ps
open Hm (Hp cur put)
theorem ltN_iff {a b : ByteArray} : Ra.ltN a b = true ↔ a.data.toList < b.data.toList := by
 unfold Ra.ltN; rw [bytesLess_eq, ByteArray.toList_eq, ByteArray.toList_eq, decide_eq_true_iff]
theorem ltN_not {a b : ByteArray} : Ra.ltN a b = false ↔ Hm.leN b a := by
 rw [← Bool.not_eq_true, ltN_iff]; unfold Hm.leN; exact List.not_lt
theorem insS_names (n : ByteArray) (p : S42) : ∀ (l : List S65) (x : ByteArray), x ∈ (Ra.insS n p l).map (·.f0) ↔ x = n ∨ x ∈ l.map (·.f0)
 | [], x => by simp [Ra.insS]
 | s :: r, x => by
  unfold Ra.insS
  split
  ·
   rw [List.map_cons, List.mem_cons, insS_names n p r x, List.map_cons, List.mem_cons]
   constructor
   ·
    rintro (h | h | h)
    ·
     exact .inr (.inl h)
    ·
     exact .inl h
    ·
     exact .inr (.inr h)
   ·
    rintro (h | h | h)
    ·
     exact .inr (.inl h)
    ·
     exact .inl h
    ·
     exact .inr (.inr h)
  ·
   split
   ·
    rename_i h2
    rw [List.map_cons, List.map_cons, List.mem_cons, List.mem_cons, h2]
    constructor
    ·
     rintro (h | h)
     ·
      exact .inl h
     ·
      exact .inr (.inr h)
    ·
     rintro (h | h | h)
     ·
      exact .inl h
     ·
      exact .inl h
     ·
      exact .inr h
   ·
    simp
theorem insS_up (n : ByteArray) (p : S42) : ∀ (l : List S65), (l.map (·.f0)).Pairwise Hm.leN → (l.map (·.f0)).Nodup → ((Ra.insS n p l).map (·.f0)).Pairwise Hm.leN ∧ ((Ra.insS n p l).map (·.f0)).Nodup
 | [], _, _ => by simp [Ra.insS]
 | s :: r, h1, h2 => by
  rw [List.map_cons] at h1 h2; obtain ⟨a1, a2⟩ := List.pairwise_cons.1 h1; obtain ⟨b1, b2⟩ := List.nodup_cons.1 h2; obtain ⟨c1, c2⟩ := insS_up n p r a2 b2; unfold Ra.insS
  split
  ·
   rename_i hlt
   rw [List.map_cons]; have hle : Hm.leN s.f0 n := by unfold Hm.leN; exact List.le_of_lt (ltN_iff.1 hlt)
   have hne : s.f0 ≠ n := fun e => by rw [e] at hlt; exact absurd (ltN_iff.1 hlt) (List.lt_irrefl _)
   refine ⟨List.pairwise_cons.2 ⟨fun x hx => ?_, c1⟩, List.nodup_cons.2 ⟨fun hx => ?_, c2⟩⟩
   ·
    rcases (insS_names n p r x).1 hx with rfl | hx
    ·
     exact hle
    ·
     exact a1 x hx
   ·
    rcases (insS_names n p r _).1 hx with e | hx
    ·
     exact hne e
    ·
     exact b1 hx
  ·
   rename_i hlt
   have hle : Hm.leN n s.f0 := ltN_not.1 (by simpa using hlt)
   split
   ·
    rename_i h3
    rw [List.map_cons]; exact ⟨by rw [← h3]; exact h1, by rw [← h3]; exact h2⟩
   ·
    rename_i h3
    rw [List.map_cons, List.map_cons]
    have hall : ∀ x ∈ s.f0 :: r.map (·.f0), Hm.leN n x := by
     intro x hx; rcases List.mem_cons.1 hx with rfl | hx
     ·
      exact hle
     ·
      exact List.le_trans hle (a1 x hx)
    refine ⟨List.pairwise_cons.2 ⟨hall, h1⟩, List.nodup_cons.2 ⟨fun hx => ?_, h2⟩⟩; rcases List.mem_cons.1 hx with e | hx
    ·
     exact h3 e.symm
    ·
     have h4 := a1 n hx; exact h3 (ByteArray.ext (Array.toList_inj.1 (List.le_antisymm h4 hle)))
theorem insS_mem (n : ByteArray) (p : S42) : ∀ (l : List S65), (l.map (·.f0)).Pairwise Hm.leN → (l.map (·.f0)).Nodup → ∀ s ∈ Ra.insS n p l,
  (s ∈ l ∧ s.f0 ≠ n) ∨ (s.f0 = n ∧ ((∃ t ∈ l, t.f0 = n ∧ s.f1 = Ra.addP p t.f1) ∨ ((∀ t ∈ l, t.f0 ≠ n) ∧ s.f1 = [p])))
 | [], _, _, s, hs => by
  have := List.mem_singleton.1 hs; subst this
  exact .inr ⟨rfl, .inr ⟨by simp, rfl⟩⟩
 | q :: r, h1, h2, s, hs => by
  rw [List.map_cons] at h1 h2; obtain ⟨a1, a2⟩ := List.pairwise_cons.1 h1; obtain ⟨b1, b2⟩ := List.nodup_cons.1 h2; unfold Ra.insS at hs
  split at hs
  ·
   rename_i hlt
   have hne : q.f0 ≠ n := fun e => by rw [e] at hlt; exact absurd (ltN_iff.1 hlt) (List.lt_irrefl _)
   rcases List.mem_cons.1 hs with rfl | hs
   ·
    exact .inl ⟨by simp, hne⟩
   ·
    rcases insS_mem n p r a2 b2 s hs with ⟨h3, h4⟩ | ⟨h3, ⟨t, h4, h5, h6⟩ | ⟨h4, h5⟩⟩
    ·
     exact .inl ⟨List.mem_cons_of_mem _ h3, h4⟩
    ·
     exact .inr ⟨h3, .inl ⟨t, List.mem_cons_of_mem _ h4, h5, h6⟩⟩
    ·
     refine .inr ⟨h3, .inr ⟨fun t ht => ?_, h5⟩⟩; rcases List.mem_cons.1 ht with rfl | ht
     ·
      exact hne
     ·
      exact h4 t ht
  ·
   rename_i hlt
   have hle : Hm.leN n q.f0 := ltN_not.1 (by simpa using hlt)
   split at hs
   ·
    rename_i h3
    rcases List.mem_cons.1 hs with rfl | hs
    ·
     exact .inr ⟨rfl, .inl ⟨q, by simp, h3, rfl⟩⟩
    ·
     exact .inl ⟨List.mem_cons_of_mem _ hs, fun e => b1 (by rw [h3, ← e]; exact List.mem_map.2 ⟨s, hs, rfl⟩)⟩
   ·
    rename_i h3
    have hall : ∀ t ∈ q :: r, t.f0 ≠ n := by
     intro t ht e; rcases List.mem_cons.1 ht with rfl | ht
     ·
      exact h3 e
     ·
      have h4 := a1 t.f0 (List.mem_map.2 ⟨t, ht, rfl⟩); rw [e] at h4; exact h3 (ByteArray.ext (Array.toList_inj.1 (List.le_antisymm h4 hle)))
    rcases List.mem_cons.1 hs with rfl | hs
    ·
     exact .inr ⟨rfl, .inr ⟨hall, rfl⟩⟩
    ·
     exact .inl ⟨hs, hall s hs⟩
theorem best_f0 (q p : Pt) (h : q.f0 = p.f0) : (Ra.best q p).f0 = q.f0 := by
 unfold Ra.best
 split
 ·
  rfl
 ·
  exact h.symm
theorem best_mem (q p : Pt) : Ra.best q p = q ∨ Ra.best q p = p := by
 unfold Ra.best
 split
 ·
  exact .inl rfl
 ·
  exact .inr rfl
theorem best_ge (q p : Pt) : Vw.Ge (Ra.best q p) q ∧ Vw.Ge (Ra.best q p) p := by
 unfold Ra.best
 split
 ·
  rename_i h
  have h1 := (Vw.wins_iff q p).1 h; rcases Vw.Ge.total q p with h2 | h2
  ·
   exact ⟨Vw.Ge.refl _, h2⟩
  ·
   exact absurd h2 h1
 ·
  rename_i h
  have h1 := (Vw.wins_false q p).1 (by simpa using h); exact ⟨h1, Vw.Ge.refl _⟩
/-- A point laid into a view is the view of one point more. -/
theorem addP_up (p : Pt) : ∀ l : List Pt, Vw.Up l → Vw.Is (l ++ [p]) (Ra.addP p l)
 | [], _ => by
  show Vw.Is [p] [p]
  exact Vw.Is.self (List.pairwise_singleton _ _)
 | q :: r, h => by
  obtain ⟨h1, h2⟩ := List.pairwise_cons.1 h; have ih := addP_up p r h2; unfold Ra.addP
  by_cases hq : q.f0 < p.f0
  ·
   rw [if_pos hq]; refine ⟨List.pairwise_cons.2 ⟨fun z hz => ?_, ih.1⟩, ?_⟩
   ·
    rcases List.mem_append.1 (ih.2.1 z hz) with h3 | h3
    ·
     exact h1 z h3
    ·
     rw [List.mem_singleton.1 h3]; exact hq
   ·
    exact Vw.Dom.append (Vw.Dom.refl [q]) ih.2
  ·
   rw [if_neg hq]
   by_cases he : q.f0 = p.f0
   ·
    rw [if_pos he]; have hb := best_f0 q p he; have hg := best_ge q p; refine ⟨List.pairwise_cons.2 ⟨fun z hz => by rw [hb]; exact h1 z hz, h2⟩, fun z hz => ?_, fun z hz => ?_⟩
    ·
     rcases List.mem_cons.1 hz with rfl | hz
     ·
      rcases best_mem q p with e | e
      ·
       rw [e]; simp
      ·
       rw [e]; simp
     ·
      simp [hz]
    ·
     rw [List.cons_append] at hz; rcases List.mem_cons.1 hz with rfl | hz
     ·
      exact ⟨_, List.mem_cons_self, hb, hg.1⟩
     ·
      rcases List.mem_append.1 hz with hz | hz
      ·
       exact ⟨z, List.mem_cons_of_mem _ hz, rfl, Vw.Ge.refl z⟩
      ·
       rw [List.mem_singleton.1 hz]; exact ⟨_, List.mem_cons_self, hb.trans he, hg.2⟩
   ·
    rw [if_neg he]; refine ⟨List.pairwise_cons.2 ⟨fun z hz => ?_, h⟩, Vw.Dom.of_mem fun z => ?_⟩
    ·
     rcases List.mem_cons.1 hz with rfl | hz
     ·
      omega
     ·
      have := h1 z hz; omega
    ·
     simp only [List.mem_append, List.mem_cons, List.not_mem_nil, or_false]
     constructor
     ·
      rintro ((h | h) | h)
      ·
       exact .inr (.inl h)
      ·
       exact .inr (.inr h)
      ·
       exact .inl h
     ·
      rintro (h | h | h)
      ·
       exact .inr h
      ·
       exact .inl (.inl h)
      ·
       exact .inl (.inr h)
theorem addP_is {c l : List Pt} (p : Pt) (h : Vw.Is c l) : Vw.Is (c ++ [p]) (Ra.addP p l) := Vw.Is.of_dom (Vw.Dom.append h.2 (Vw.Dom.refl [p])) (addP_up p l h.1)
theorem addP_ne (p : Pt) (l : List Pt) : Ra.addP p l ≠ [] := by
 cases l with
 | nil => simp [Ra.addP]
 | cons q r =>
  unfold Ra.addP
  split
  ·
   simp
  ·
   split <;> simp
/-- A view cut to some times is the view of what is cut. -/
theorem cut_is {c l : List Pt} (a b : Int) (h : Vw.Is c l) : Vw.Is (Hm.cut c a b) (Hm.cut l a b) := by
 unfold Hm.cut; refine ⟨List.Pairwise.filter _ h.1, fun p hp => ?_, fun q hq => ?_⟩
 ·
  obtain ⟨h1, h2⟩ := List.mem_filter.1 hp; exact List.mem_filter.2 ⟨h.2.1 p h1, h2⟩
 ·
  obtain ⟨h1, h2⟩ := List.mem_filter.1 hq; obtain ⟨p, h3, h4, h5⟩ := h.2.2 q h1; exact ⟨p, List.mem_filter.2 ⟨h3, by rw [h4]; exact h2⟩, h4, h5⟩
theorem cut_view (c : List Pt) (a b : Int) : Hm.cut (Vw.view c) a b = Vw.view (Hm.cut c a b) := (Vw.view_eq (cut_is a b (Vw.view_is c))).symm
/-- The document's series say what was told, by name: the views of what lies in the times that were asked for. -/
structure SR (rg : S30) (told : ByteArray → List Pt) (S : List S65) : Prop where
 up : (S.map (·.f0)).Pairwise Hm.leN
 nd : (S.map (·.f0)).Nodup
 val : ∀ s ∈ S, s.f1 ≠ [] ∧ Vw.Is (Hm.cut (told s.f0) rg.f0 rg.f1) s.f1
 all : ∀ n, Hm.cut (told n) rg.f0 rg.f1 ≠ [] → ∃ s ∈ S, s.f0 = n
theorem SR.nil (rg : S30) : SR rg (fun _ => []) [] := ⟨List.Pairwise.nil, List.nodup_nil, by simp, fun n h => absurd rfl h⟩
def tell (told : ByteArray → List Pt) (n : ByteArray) (P : List Pt) (k : ByteArray) : List Pt := if k = n then told k ++ P else told k
theorem cut_append (l r : List Pt) (a b : Int) : Hm.cut (l ++ r) a b = Hm.cut l a b ++ Hm.cut r a b := List.filter_append ..
theorem SR.one {rg : S30} {told : ByteArray → List Pt} {S : List S65} (h : SR rg told S) (n : ByteArray) (p : Pt) : SR rg (tell told n [p]) (add1 rg n S p) := by
 unfold add1
 by_cases hp : rg.f0 ≤ p.f0 ∧ p.f0 < rg.f1
 ·
  rw [if_pos hp]; have hc : Hm.cut [p] rg.f0 rg.f1 = [p] := by unfold Hm.cut; rw [List.filter_cons, if_pos (by simp [hp]), List.filter_nil]
  have hn : Hm.cut (tell told n [p] n) rg.f0 rg.f1 = Hm.cut (told n) rg.f0 rg.f1 ++ [p] := by unfold tell; rw [if_pos rfl, cut_append, hc]
  have ho : ∀ k, k ≠ n → tell told n [p] k = told k := fun k hk => by unfold tell; rw [if_neg hk]
  obtain ⟨u1, u2⟩ := insS_up n p S h.up h.nd; refine ⟨u1, u2, fun s hs => ?_, fun k hk => ?_⟩
  ·
   rcases insS_mem n p S h.up h.nd s hs with ⟨h1, h2⟩ | ⟨h1, ⟨t, h2, h3, h4⟩ | ⟨h2, h3⟩⟩
   ·
    rw [ho _ h2]; exact h.val s h1
   ·
    rw [h1, hn, h4]; have := (h.val t h2).2; rw [h3] at this; exact ⟨addP_ne p t.f1, addP_is p this⟩
   ·
    rw [h1, hn, h3]
    have he : Hm.cut (told n) rg.f0 rg.f1 = [] := by
     cases hh : Hm.cut (told n) rg.f0 rg.f1 with
     | nil => rfl
     | cons q r =>
      obtain ⟨s2, h5, h6⟩ := h.all n (by rw [hh]; simp); exact absurd h6 (h2 s2 h5)
    rw [he, List.nil_append]; exact ⟨by simp, Vw.Is.self (List.pairwise_singleton _ _)⟩
  ·
   by_cases hkn : k = n
   ·
    subst hkn; obtain ⟨s, h1, h2⟩ := List.mem_map.1 ((insS_names k p S k).2 (.inl rfl)); exact ⟨s, h1, h2⟩
   ·
    rw [ho k hkn] at hk; obtain ⟨s, h1, h2⟩ := h.all k hk; obtain ⟨s2, h3, h4⟩ := List.mem_map.1 ((insS_names n p S k).2 (.inr (List.mem_map.2 ⟨s, h1, h2⟩))); exact ⟨s2, h3, h4⟩
 ·
  rw [if_neg hp]; have hc : Hm.cut [p] rg.f0 rg.f1 = [] := by unfold Hm.cut; rw [List.filter_cons, if_neg (by simpa using hp), List.filter_nil]
  have ho : ∀ k, Hm.cut (tell told n [p] k) rg.f0 rg.f1 = Hm.cut (told k) rg.f0 rg.f1 := fun k => by
   unfold tell
   split
   ·
    rw [cut_append, hc, List.append_nil]
   ·
    rfl
  exact ⟨h.up, h.nd, fun s hs => by rw [ho]; exact h.val s hs, fun k hk => h.all k (by rw [← ho]; exact hk)⟩
theorem SR.more {rg : S30} (n : ByteArray) : ∀ (P : List Pt) (told : ByteArray → List Pt) (S : List S65), SR rg told S → SR rg (tell told n P) (addP rg n S P)
 | [], told, S, h => by
  have : tell told n [] = told := by funext k; unfold tell; split <;> simp
  rw [this]; exact h
 | p :: P, told, S, h => by
  have ih := SR.more n P (tell told n [p]) (add1 rg n S p) (h.one n p)
  have : tell (tell told n [p]) n P = tell told n (p :: P) := by
   funext k
   unfold tell
   split <;> simp
  rw [this] at ih; exact ih
/-- Strictly rising names with the same members are one list. -/
theorem names_ext : ∀ {l m : List ByteArray}, l.Pairwise Hm.leN → l.Nodup → m.Pairwise Hm.leN → m.Nodup → (∀ x, x ∈ l ↔ x ∈ m) → l = m
 | [], [], _, _, _, _, _ => rfl
 | [], y :: m, _, _, _, _, h => absurd ((h y).2 List.mem_cons_self) (by simp)
 | x :: l, [], _, _, _, _, h => absurd ((h x).1 List.mem_cons_self) (by simp)
 | x :: l, y :: m, h1, h2, h3, h4, h => by
  obtain ⟨a1, a2⟩ := List.pairwise_cons.1 h1; obtain ⟨b1, b2⟩ := List.nodup_cons.1 h2; obtain ⟨c1, c2⟩ := List.pairwise_cons.1 h3; obtain ⟨d1, d2⟩ := List.nodup_cons.1 h4
  have hxy : x = y := by
   rcases List.mem_cons.1 ((h x).1 List.mem_cons_self) with e | e
   ·
    exact e
   ·
    rcases List.mem_cons.1 ((h y).2 List.mem_cons_self) with e2 | e2
    ·
     exact e2.symm
    ·
     exact ByteArray.ext (Array.toList_inj.1 (List.le_antisymm (a1 y e2) (c1 x e)))
  subst hxy
  congr 1
  refine names_ext a2 b2 c2 d2 (fun z => ⟨fun hz => ?_, fun hz => ?_⟩)
  ·
   rcases List.mem_cons.1 ((h z).1 (List.mem_cons_of_mem _ hz)) with e | e
   ·
    exact absurd (by rw [← e]; exact hz) b1
   ·
    exact e
  ·
   rcases List.mem_cons.1 ((h z).2 (List.mem_cons_of_mem _ hz)) with e | e
   ·
    exact absurd (by rw [← e]; exact hz) d1
   ·
    exact e
theorem aget_put_self {α β : Type} [DecidableEq α] (a : α) (v : β) : ∀ m : List (α × β), XM.aget (XM.aput m a v) a = some v
 | [] => by simp [XM.aput, XM.aget]
 | y :: r => by
  have ih := aget_put_self a v r
  by_cases h : y.1 = a
  ·
   simp only [XM.aput, if_pos h, XM.aget]; simp
  ·
   simp only [XM.aput, if_neg h, XM.aget]; exact ih
theorem aget_put_other {α β : Type} [DecidableEq α] (a b : α) (v : β) (hb : b ≠ a) : ∀ m : List (α × β), XM.aget (XM.aput m a v) b = XM.aget m b
 | [] => by
  have : ¬ a = b := fun e => hb e.symm
  simp [XM.aput, XM.aget, this]
 | y :: r => by
  have ih := aget_put_other a b v hb r
  by_cases h : y.1 = a
  ·
   have h1 : ¬ a = b := fun e => hb e.symm; have h2 : ¬ y.1 = b := fun e => hb (by rw [← e, h]); simp only [XM.aput, if_pos h, XM.aget, if_neg h1, if_neg h2]
  ·
   by_cases h2 : y.1 = b
   ·
    simp only [XM.aput, if_neg h, XM.aget, if_pos h2]
   ·
    simp only [XM.aput, if_neg h, XM.aget, if_neg h2]; exact ih
theorem cur_tell (hm : Hp) (i : ByteArray) (v : Value) (P : List Pt) : (fun n => (cur (put hm i v P) n).2) = tell (fun n => (cur hm n).2) i P := by
 funext k
 unfold tell; have h1 := Hm.cont_cur k (put hm i v P); have h2 := Hm.cont_cur k hm; have h3 := Hm.cont_cur i hm; unfold put at h1 ⊢; rw [Hm.cont_aput] at h1
 by_cases hk : k = i
 ·
  subst hk; rw [if_pos rfl, h1, aget_put_self]; rfl
 ·
  rw [if_neg hk, h1, aget_put_other _ _ _ hk, ← h2]
theorem view_nil {l : List Pt} : Vw.view l = [] ↔ l = [] := by
 constructor
 ·
  intro h
  cases l with
  | nil => rfl
  | cons p r =>
   obtain ⟨q, hq, _⟩ := (Vw.view_is (p :: r)).2.2 p List.mem_cons_self; rw [h] at hq; cases hq
 ·
  intro h; have := Vw.view_len l; rw [h] at this ⊢; exact List.eq_nil_of_length_eq_zero (by simpa using this)
theorem serOf_map (rg : S30) (hm : Hp) : ∀ ns : List ByteArray, serOf rg hm ns = (ns.filter (fun n => decide (Hm.cut (cur hm n).2 rg.f0 rg.f1 ≠ []))).map (fun n => (⟨n, Vw.view (Hm.cut (cur hm n).2 rg.f0 rg.f1)⟩ : S65))
 | [] => rfl
 | n :: r => by
  have ih := serOf_map rg hm r; unfold serOf at ih ⊢; rw [List.flatMap_cons, ih]; unfold one; rw [cut_view]
  by_cases h : Hm.cut (cur hm n).2 rg.f0 rg.f1 = []
  ·
   rw [List.filter_cons_of_neg (by simp [h]), if_neg (by rw [view_nil.2 h]; simp), List.nil_append]
  ·
   rw [List.filter_cons_of_pos (by simp [h]), List.map_cons, if_pos (by
    rcases Nat.eq_zero_or_pos (Vw.view (Hm.cut (cur hm n).2 rg.f0 rg.f1)).length with h2 | h2
    ·
     exact absurd (view_nil.1 (List.eq_nil_of_length_eq_zero h2)) h
    ·
     exact h2)]
   rfl
theorem cur_mem {hm : Hp} {n : ByteArray} (h : (cur hm n).2 ≠ []) : n ∈ hm.map (·.1) := by
 unfold cur at h
 cases hg : XM.aget hm n with
 | none => rw [hg] at h; exact absurd rfl h
 | some v => exact List.mem_map.2 ⟨(n, v), XM.aget_some hg, rfl⟩
/-- What the fetch tells is what the document's tells. -/
theorem series_eq {rg : S30} {hm : Hp} {ns : List ByteArray} {S : List S65} (h : SR rg (fun n => (cur hm n).2) S) (hp : ns.Perm (hm.map (·.1))) (hpw : ns.Pairwise Hm.leN) (hnd : (hm.map (·.1)).Nodup) : serOf rg hm ns = S.map vs := by
 have hF : ns.filter (fun n => decide (Hm.cut (cur hm n).2 rg.f0 rg.f1 ≠ [])) = S.map (·.f0) := by
  refine names_ext (hpw.filter _) ((hp.nodup_iff.2 hnd).filter _) h.up h.nd (fun z => ?_); rw [List.mem_filter]
  constructor
  ·
   rintro ⟨_, h2⟩; obtain ⟨s, h3, h4⟩ := h.all z (by simpa using h2); exact List.mem_map.2 ⟨s, h3, h4⟩
  ·
   intro hz; obtain ⟨s, h3, rfl⟩ := List.mem_map.1 hz; obtain ⟨h4, h5⟩ := h.val s h3
   have hne : Hm.cut (cur hm s.f0).2 rg.f0 rg.f1 ≠ [] := fun e => by
    cases hs : s.f1 with
    | nil => exact h4 hs
    | cons p r =>
     have := h5.2.1 p (by rw [hs]; simp); rw [e] at this; cases this
   exact ⟨hp.mem_iff.2 (cur_mem (fun e => hne (by rw [e]; rfl))), by simpa using hne⟩
 rw [serOf_map, hF, List.map_map]; refine List.map_congr_left (fun s hs => ?_); obtain ⟨_, h5⟩ := h.val s hs; show (⟨s.f0, _⟩ : S65) = vs s; unfold vs; rw [Vw.view_eq h5, Vw.view_eq (Vw.Is.self h5.1)]
theorem same_ev (l : List Pt) (hl : l.length ≤ 1000000) : Ev (fun k => thermographlaw17_same.f k l l) true := by
 have h : ∀ (d i : Nat), l.length - i = d → i ≤ l.length → Ev (fun k => thermographlaw17_same.l0 k l l (i : Int)) true := by
  intro d
  induction d with
  | zero =>
   intro i h1 h2; refine Ev.step (f := fun _ => some true) (fun k => ?_) (Ev.now _)
   rw [thermographlaw17_same.l0, if_neg (by omega)]
  | succ d ih =>
   intro i h1 h2; have := ih (i + 1) (by omega) (by omega); refine Ev.step (fun k => ?_) this; rw [thermographlaw17_same.l0, if_pos (by omega), if_pos (by omega), if_pos (by omega), if_neg (by simp), show wrap64 ((i : Int) + 1) = ((i + 1 : Nat) : Int) from by unfold wrap64; omega]
 exact Ev.congr (fun k => by unfold thermographlaw17_same.f; rw [if_pos rfl]; rfl) (h _ 0 rfl (Nat.zero_le _))
theorem sameSeries_ev (l : List S65) (hl : l.length ≤ 1000000) (hs : ∀ s ∈ l, s.f1.length ≤ 1000000) : Ev (fun k => thermographlaw17_sameSeries.f k l l) true := by
 have h : ∀ (d i : Nat), l.length - i = d → i ≤ l.length → Ev (fun k => thermographlaw17_sameSeries.l0 k l l (i : Int)) true := by
  intro d
  induction d with
  | zero =>
   intro i h1 h2; refine Ev.step (f := fun _ => some true) (fun k => ?_) (Ev.now _)
   rw [thermographlaw17_sameSeries.l0, if_neg (by omega)]
  | succ d ih =>
   intro i h1 h2; have h3 := ih (i + 1) (by omega) (by omega); have hi : i < l.length := by omega
   have h4 : (rd_T65 l (i : Int)).f1.length ≤ 1000000 := by rw [rdS hi]; exact hs _ (List.getElem_mem hi)
   refine Ev.step (f := fun k => (thermographlaw17_same.f k (rd_T65 l (i : Int)).f1 (rd_T65 l (i : Int)).f1).bind fun t => if t = true then thermographlaw17_sameSeries.l0 k l l ((i + 1 : Nat) : Int) else some false) (fun k => ?_) (Ev.bind (f := fun k t => if t = true then thermographlaw17_sameSeries.l0 k l l ((i + 1 : Nat) : Int) else some false) (same_ev _ h4) (by simpa using h3)); rw [thermographlaw17_sameSeries.l0, if_pos (by omega), if_pos (by omega), if_pos (by omega), if_pos rfl, show wrap64 ((i : Int) + 1) = ((i + 1 : Nat) : Int) from by unfold wrap64; omega]
 exact Ev.congr (fun k => by unfold thermographlaw17_sameSeries.f; rw [if_pos rfl]; rfl) (h _ 0 rfl (Nat.zero_le _))
theorem sameSeries_calls (w : World) (A1 : Option Addr) (c1 : Nat) (A2 : Option Addr) (c2 : Nat) (l : List S65) (hl : l.length ≤ 1000000) (hs : ∀ s ∈ l, s.f1.length ≤ 1000000) (h1 : Kd.C k65 w A1 l.length l) (g1 : l.length ≤ c1) (h2 : Kd.C k65 w A2 l.length l) (g2 : l.length ≤ c2) :
  Calls Try.prog 19 #[.slice A1 l.length c1, .slice A2 l.length c2] w fun e w' => e = .returned (.bool true) ∧ Below w.heap.size w w' := by
 obtain ⟨k, hk⟩ := (sameSeries_ev l hl hs).rounds
 exact (thermographlaw17_sameSeries.calls k A1 c1 l A2 c2 l _ w h1 g1 h2 g2 hk).mono fun e w' h => ⟨h.1, h.2.below⟩
end Ps
end Go.Proofs.Ytgagcimfkmegnaa
end
section
namespace Go.Proofs.Ytgagcimfkmegnaa
set_option linter.unusedVariables false
set_option linter.unusedSimpArgs false
open Go.RowKit Go.Proofs.YtgagcimfkmegnaaW.PrintWords Go.Proofs.YtgagcimfkmegnaaW.PrintLast Go.Proofs.YtgagcimfkmegnaaW.PrintMore Go.Proofs.Ytgagcimfkmegnaa.QT
namespace Ps
open Hm (Hp HM HMap cur put Sh)
/-- Both sides have come to the same, and lie apart. -/
structure Both (w0 w : World) (g gm gr : Nat) (x : Fx) (a : Fa) (T : Nat) (c : Me) (vM : Value) (hm : Hp) (vL vS : Value) (S : List S65) (Q : Nat → Prop) : Prop where
 p : FIs w w0.heap.size g gm vM x c a
 m : HM w gm w0.heap.size T hm
 r : RIs w w0.heap.size gr vL vS x a
 V : Kd.V k65 65 w 0 Q vS S
 len : Lens S T
 qa : ∀ k, Q k → k ≠ gr ∧ vL.ownBlock ≠ some k
 ql : ∀ k, Q k → k < w.heap.size
 sr : SR x.rg (fun n => (cur hm n).2) S
 ap : ∀ k, PFt g gm vM hm k → k ≠ gr ∧ vL.ownBlock ≠ some k ∧ ¬ Q k
 bel : Below w0.heap.size w0 w
 bm : w0.heap.size ≤ gm
 ids : ∀ e ∈ a.L, e.f0.size ≤ maxLen
 cl : a.L.length ≤ T
variable {w0 w w1 w2 w3 : World} {g gm gr : Nat} {x : Fx} {a : Fa} {T : Nat} {c c' : Me} {vM vM' : Value} {hm hm' : Hp} {vL vS vL' vS' : Value} {S : List S65} {Q Q' : Nat → Prop}
theorem pft_lt {B : Nat} (hI : FIs w B g gm vM x c a) (hM : HM w gm B T hm) : ∀ k, PFt g gm vM hm k → k < w.heap.size := by
 rintro k (rfl | h | rfl | ⟨e, he, h⟩)
 ·
  exact blk_lt hI.blk
 ·
  exact Kd.Q_lt hI.met k h
 ·
  exact hM.map.lt
 ·
  exact Kd.R_lt (hM.rows e he) k h
theorem Both.below (h : Both w0 w g gm gr x a T c vM hm vL vS S Q) (hb : Below w.heap.size w w1) : Both w0 w1 g gm gr x a T c vM hm vL vS S Q :=
 ⟨h.p.below hb, h.m.below hb, h.r.below hb, Kd.V_below h.V hb, h.len, h.qa, fun k hk => Nat.lt_of_lt_of_le (h.ql k hk) hb.size, h.sr, h.ap, below_then h.bel h.bel.size hb, h.bm, h.ids, h.cl⟩
theorem FIs.kept {B : Nat} {F : Nat → Prop} (h : FIs w B g gm vM x c a) (hk : Kept w w1 F) (hF : ∀ k, k = g ∨ vM.ownBlock = some k → ¬ F k) : FIs w1 B g gm vM x c a :=
 ⟨blk_kept h.blk hk (hF g (.inl rfl)), Kd.Q_mono (Kd.Q_kept (Kd.Q_tight rfl h.met) hk (fun k ho => hF k (.inr ho.symm))) (fun _ _ => trivial), h.cb, h.ci, h.bg, h.le, h.pn, fun hp => Kd.R_mono (Kd.R_kept (Kd.R_tight rfl (h.mr hp)) hk (fun k ho => hF k (.inr ho.symm))) (fun _ _ => trivial)⟩
theorem RIs.kept {B : Nat} {F : Nat → Prop} (h : RIs w B gr vL vS x a) (hk : Kept w w1 F) (hF : ∀ k, k = gr ∨ vL.ownBlock = some k → ¬ F k) : RIs w1 B gr vL vS x a :=
 ⟨blk_kept h.blk hk (hF gr (.inl rfl)), Kd.R_mono (Kd.R_kept (Kd.R_tight rfl h.met) hk (fun k ho => hF k (.inr ho.symm))) (fun _ _ => trivial), h.bg, h.le, h.pn⟩
theorem hm_apart {B : Nat} {F : Nat → Prop} (h : HM w gm B T hm) (hk : Kept w w1 F) (hF : ∀ k, Sh gm hm k → ¬ F k) : HM w1 gm B T hm :=
 ⟨XM.MapIs.move h.map (hk.2 gm h.map.lt (hF gm (.inl rfl))), fun e he => Hm.R97 (Kd.R_kept (Hm.R97 (h.rows e he) (ok' := fun k => e.2.1.ownBlock = some k) (fun k hk => hk)) hk (fun k ho => hF k (.inr ⟨e, he, ho⟩))) (fun _ _ => trivial), h.apart, h.len, h.cnt⟩
theorem pageF_L : ∀ (ms : List Me) (b : Int) (i : ByteArray) (L : List Me), (pageF b i L ms).1.2.2.length ≤ L.length + ms.length ∧ ∀ e ∈ (pageF b i L ms).1.2.2, e ∈ L ∨ e ∈ ms
 | [], b, i, L => ⟨Nat.le_refl _, fun e he => .inl he⟩
 | m :: r, b, i, L => by
  unfold pageF
  split
  ·
   obtain ⟨h1, h2⟩ := pageF_L r m.f1 m.f0 (L ++ [m]); refine ⟨by rw [List.length_append] at h1; simp only [List.length_cons, List.length_nil] at h1 ⊢; omega, fun e he => ?_⟩; rcases h2 e he with h3 | h3
   ·
    rcases List.mem_append.1 h3 with h3 | h3
    ·
     exact .inl h3
    ·
     rw [List.mem_singleton.1 h3]; exact .inr List.mem_cons_self
   ·
    exact .inr (List.mem_cons_of_mem _ h3)
  ·
   exact ⟨Nat.le_add_right _ _, fun e he => .inl he⟩
theorem hearA_L (sz : Int) (a : Fa) (m : S46) : (hearA sz a m).L.length ≤ a.L.length + m.f12.length ∧ ∀ e ∈ (hearA sz a m).L, e ∈ a.L ∨ e ∈ m.f12 := by
 have h0 : a.L.length ≤ a.L.length + m.f12.length ∧ ∀ e ∈ a.L, e ∈ a.L ∨ e ∈ m.f12 := ⟨Nat.le_add_right _ _, fun e he => .inl he⟩
 unfold hearA
 split
 ·
  split
  ·
   split
   ·
    split
    ·
     exact h0
    ·
     exact h0
   ·
    show (pageA a.blk a.id a.L m.f10 m.f12).1.2.2.length ≤ _ ∧ ∀ e ∈ (pageA a.blk a.id a.L m.f10 m.f12).1.2.2, _; unfold pageA
    split
    ·
     exact h0
    ·
     exact pageF_L m.f12 a.blk a.id a.L
  ·
   exact h0
 ·
  exact h0
/-- Behind the fetch's Hear the document's fetch is as it was. -/
theorem Both.mid (h : Both w0 w g gm gr x a T c vM hm vL vS S Q) {m : S46} (hH : HearOut w0 w g gm x vM hm T a m w1 c' vM' hm') (hb : Below w1.heap.size w1 w2) : RIs w2 w0.heap.size gr vL vS x a ∧ Kd.V k65 65 w2 0 Q vS S := by
 have h1 : ∀ k, k = gr ∨ vL.ownBlock = some k → ¬ PFt g gm vM hm k := fun k hk hp => by
  obtain ⟨q1, q2, _⟩ := h.ap k hp; rcases hk with hk | hk
  ·
   exact q1 hk
  ·
   exact q2 hk
 exact ⟨(h.r.kept hH.kept h1).below hb, Kd.V_below (Kd.V_kept h.V hH.kept (fun k hk hp => (h.ap k hp).2.2 hk)) hb⟩
/-- What both have come to by a message. -/
theorem Both.heard (h : Both w0 w g gm gr x a T c vM hm vL vS S Q) {m : S46} (hH : HearOut w0 w g gm x vM hm T a m w1 c' vM' hm') (hb : Below w1.heap.size w1 w2) (hR : RHearOut w0 w2 gr x vL Q T a m S w3 vL' vS' Q') (hid : ∀ e ∈ m.f12, e.f0.size ≤ maxLen) {n : Nat} (hn : m.f11.length + m.f12.length + 1 ≤ n) :
  Both w0 w3 g gm gr x (hearA x.sz a m) (T + n) c' vM' hm' vL' vS' (serA x a m S) Q' := by
 have h12 : w1.heap.size ≤ w2.heap.size := hb.size; have lt1 := pft_lt hH.is hH.map; have hgr : gr < w.heap.size := blk_lt h.r.blk; have hvL : ∀ k, vL.ownBlock = some k → k < w.heap.size := Kd.R_lt h.r.met
 have hF : ∀ k, PFt g gm vM' hm' k → ¬ (k = gr ∨ vL.ownBlock = some k) := fun k hk hf => by
  rcases hH.own k hk with h1 | h1
  ·
   obtain ⟨q1, q2, _⟩ := h.ap k h1; rcases hf with e | e
   ·
    exact q1 e
   ·
    exact q2 e
  ·
   rcases hf with e | e
   ·
    omega
   ·
    have := hvL k e; omega
 obtain ⟨l1, l2⟩ := hearA_L x.sz a m; refine ⟨(hH.is.below hb).kept hR.kept (fun k hk => hF k (hk.elim .inl (fun e => .inr (.inl e)))), (hm_apart (hH.map.below hb) hR.kept (fun k hk => hF k (.inr (.inr hk)))).more (by omega), hR.is, hR.V, hR.len.more (by omega), hR.qa, fun k hk => (hR.qn k hk).2, ?_, fun k hk => ?_, hR.bel, h.bm, fun e he => (l2 e he).elim (h.ids e) (hid e), by have := h.cl; omega⟩
 ·
  unfold serA
  by_cases hg : good x.sz a m = true
  ·
   obtain ⟨v1, hv1⟩ := hH.told hg; rw [if_pos hg, hv1, cur_tell]; exact SR.more _ _ _ _ h.sr
  ·
   rw [if_neg hg, hH.not (by simpa using hg)]; exact h.sr
 ·
  have h4 := hF k hk; have h5 := lt1 k hk; refine ⟨fun e => h4 (.inl e), fun e => ?_, fun hq => ?_⟩
  ·
   rcases hR.own k e with h6 | h6
   ·
    exact h4 (.inr h6)
   ·
    omega
  ·
   rcases (hR.qn k hq).1 with h6 | h6
   ·
    rcases hH.own k hk with h7 | h7
    ·
     exact (h.ap k h7).2.2 h6
    ·
     have := h.ql k h6; omega
   ·
    omega
/-- As both begin. -/
theorem Both.begin {x : Fx} {seq : Int} (hp : FIs w1 w0.heap.size g gm (.slice none 0 0) x z25 (a0 seq)) (hM : HM w1 gm w0.heap.size 0 []) (hb1 : Below w0.heap.size w0 w1) (hgm : w0.heap.size ≤ gm) (hr : RIs w2 w0.heap.size gr (.slice none 0 0) (.slice none 0 0) x (ra0 seq)) (hb2 : Below w1.heap.size w1 w2) (hgr : w1.heap.size ≤ gr) :
  Both w0 w2 g gm gr x (a0 seq) 0 z25 (.slice none 0 0) [] (.slice none 0 0) (.slice none 0 0) [] (fun _ => False) := by
 refine ⟨hp.below hb2, hM.below hb2, hr, Kd.V_nil _ _ _ _ _, ⟨Nat.zero_le _, by simp⟩, fun k hk => hk.elim, fun k hk => hk.elim, SR.nil _, fun k hk => ⟨?_, by simp [Value.ownBlock], id⟩, below_then hb1 hb1.size hb2, hgm, by simp [a0], Nat.zero_le _⟩; have := pft_lt hp hM k hk; omega
theorem Both.nd (h : Both w0 w g gm gr x a T c vM hm vL vS S Q) : (hm.map (·.1)).Nodup := by
 obtain ⟨es, clock, h1, h2, h3, h4, h5⟩ := h.m.map; exact XM.nodup_of h3 h4
theorem vs_len {S : List S65} {T : Nat} (h : Lens S T) : (S.map vs).length ≤ T ∧ ∀ s ∈ S.map vs, s.f1.length ≤ T := by
 refine ⟨by rw [List.length_map]; exact h.1, fun s hs => ?_⟩; obtain ⟨t, ht, rfl⟩ := List.mem_map.1 hs; exact Nat.le_trans (Vw.view_len t.f1) (h.2 t ht)
end Ps
end Go.Proofs.Ytgagcimfkmegnaa
end
