/- What a right shard tells. -/
import Derived.Test.YtiinmagnpkfbbaaGreatBootB
section
set_option maxHeartbeats 2000000
namespace Go.Proofs.YtiinmagnpkfbbaaGreat
set_option linter.unusedVariables false
set_option linter.unusedSimpArgs false
open Go.RowKit Go.Proofs.YtiinmagnpkfbbaaGreatW.PrintWords Go.Proofs.YtiinmagnpkfbbaaGreatW.PrintLast Go.Proofs.YtiinmagnpkfbbaaGreatW.PrintMore Go.Proofs.YtiinmagnpkfbbaaGreat.QT
namespace Bt
theorem zeroI : ∀ w, (zeroValue 3).run Tryz.prog w = .ok (.int .i64 0) w := fun w => by kernel_rfl
def AnswersI (w0 : World) (gb : Option Nat) (g : Nat) (q : Value) (p : Int → Bool) (l : List Int) : Prop :=
 ∀ W, w0.grownBy W gb → ∀ x ∈ l, Calls Tryz.prog g #[q, .int .i64 x] W fun e w' => e = .returned (.bool (p x)) ∧ Below W.heap.size W w'
theorem idx_hit {p : Int → Bool} {l : List Int} {i : Nat} (h : i < l.length) (hp : ∀ j (hj : j < i), p (l[j]'(by omega)) = false) (ht : p l[i] = true) : Lib.idxByFrom (fun _ y => p y) default l 0 = (i : Int) := by
 have key : ∀ (l : List Int) (k i : Nat) (h : i < l.length), (∀ j (hj : j < i), p (l[j]'(by omega)) = false) → p l[i] = true → Lib.idxByFrom (fun _ y => p y) default l k = ((k + i : Nat) : Int) := by
  intro l
  induction l with
  | nil => intro k i h; simp at h
  | cons y r ih =>
   intro k i h hp ht
   cases i with
   | zero => simp only [List.getElem_cons_zero] at ht; simp [Lib.idxByFrom, ht]
   | succ i =>
    have h0 := hp 0 (by omega); simp only [List.getElem_cons_zero] at h0; rw [List.getElem_cons_succ] at ht; have := ih (k + 1) i (by simpa using h) (fun j hj => by have := hp (j + 1) (by omega); rwa [List.getElem_cons_succ] at this) ht; simp only [Lib.idxByFrom, h0]; rw [show (if false = true then (k : Int) else Lib.idxByFrom (fun _ y => p y) default r (k + 1)) = Lib.idxByFrom (fun _ y => p y) default r (k + 1) from rfl, this]
    congr 1
    omega
 have := key l 0 i h hp ht
 rwa [Nat.zero_add] at this
theorem idx_miss {p : Int → Bool} {l : List Int} (hp : ∀ j (hj : j < l.length), p l[j] = false) : Lib.idxByFrom (fun _ y => p y) default l 0 = -1 := by
 rcases Rg.first_of p l 0 with ⟨e, _⟩ | ⟨k, hk, e, hf⟩
 ·
  exact e
 ·
  have key : ∀ (l : List Int) (n : Nat), (∀ x ∈ l, p x = false) → Lib.idxByFrom (fun _ y => p y) default l n = -1 := by
   intro l
   induction l with
   | nil => intro n _; rfl
   | cons y r ih => intro n h; simp only [Lib.idxByFrom, h y List.mem_cons_self]; exact ih (n + 1) (fun x hx => h x (List.mem_cons_of_mem _ hx))
  exact key l 0 (fun x hx => by obtain ⟨j, hj, rfl⟩ := List.mem_iff_getElem.1 hx; exact hp j hj)
theorem index_int (p : Int → Bool) (g : Nat) (q : Value) (eg : ∀ args w, (callFunc g args).run Tryz.prog w = .ok (.enter g args) w) (base : Nat) (P0 : Nat → Prop) (gb cap n : Nat) (l : List Int) (w : World)
  (hR : Kd.R kI 3 w base P0 (.slice (some ⟨gb, 0, none⟩) n cap) l) (hp : AnswersI w none g q p l) :
  Calls Tryz.prog 71 #[.slice (some ⟨gb, 0, none⟩) n cap, .func (.func g) #[q] #[]] w fun e w' => e = .returned (.int .i64 (Lib.idxByFrom (fun _ y => p y) default l 0)) ∧ Below w.heap.size w w' := by
 obtain ⟨hn, hnc, hC⟩ := Kd.R_reads' hR; have hmax := hC.2.1; clear hC; have HR := Lib.hid hR; have HP := Lib.hid hp; have Hn := Lib.hid hn; have H0 := Lib.hid (Below.refl w.heap.size w); clear hR hp hn; go_enter Tryz.func71, Tryz.ntmps71
 go_wp2; go_loopg [5, 8] n (fun gg s5 s8 wr => ∃ (i : Nat), s8 = .int .i64 i ∧ Hid (gg = n - i) ∧ Hid (i ≤ n) ∧ Hid (∀ j (hj : j < l.length), j < i → p l[j] = false) ∧ Hid (Below w.heap.size w wr))
 case atStart => exact ⟨0, rfl, Lib.hid rfl, Lib.hid (Nat.zero_le _), Lib.hid (fun j hj h => by omega), H0⟩
 case round =>
  obtain ⟨i, rfl, HG, HI, HF, HB⟩ := hrel
  by_cases hlt : i < n
  ·
   have hlti : (i : Int) < (n : Int) := by omega
   have hil : i < l.length := by have := Hn.out; omega
   have c0 : wr.cell? ⟨gb, i, none⟩ = some (.int .i64 l[i]) := by
    obtain ⟨c, hcl, hM, hcc, hfr⟩ := Kd.R_elem (Kd.R_below HR.out HB.out) 0 (i : Int) (by omega) (by omega); rw [Int.toNat_natCast] at hcc hM; obtain rfl : c = [.int .i64 _] := hM; have h_ := hcc 0 _ rfl; rw [show kI.sz = 1 from rfl, Nat.mul_one, Nat.add_zero, List.getD_eq_getElem?_getD, List.getElem?_eq_getElem hil] at h_; exact h_
   obtain ⟨x, hx⟩ : ∃ x, l[i] = x := ⟨_, rfl⟩
   rw [hx] at c0; have HX := Lib.hid hx; have HC := Lib.hid (HP.out wr (grown_of_below HB.out none) x (hx ▸ List.getElem_mem hil)); clear hx
   cases hpx : p x with
   | true =>
    have HC2 : Hid _ := Lib.hid HC.out; rw [hpx] at HC2; have HE := Lib.hid (idx_hit (p := p) hil (fun j hj => HF.out j (by omega) hj) (by rw [HX.out]; exact hpx)); clear hpx HC; go_wp2_with fail
    with_reducible refine HC2.out.mono ?_
    rintro e w2 ⟨rfl, hb2⟩; have HB2 := Lib.hid (below_then HB.out HB.out.size hb2); clear hb2 c0; go_wp2; go_ret
    (rw [HE.out])
    exact ⟨rfl, HB2.out⟩
   | false =>
    have HC2 : Hid _ := Lib.hid HC.out; rw [hpx] at HC2; have HPX := Lib.hid hpx; clear hpx HC; go_wp2_with fail
    with_reducible refine HC2.out.mono ?_
    rintro e w2 ⟨rfl, hb2⟩; have HB2 := Lib.hid (below_then HB.out HB.out.size hb2); clear hb2 c0; go_wp2; go_roundg (n - (i + 1))
    case measure => have := HG.out; omega
    case rel => exact ⟨i + 1, by go_num, Lib.hid rfl, Lib.hid hlt, Lib.hid (fun j hj h => by
     by_cases e : j = i
     ·
      subst e; rw [HX.out]; exact HPX.out
     ·
      exact HF.out j hj (by omega)), HB2⟩
  ·
   have hlti : ¬ (i : Int) < (n : Int) := by omega
   have HE := Lib.hid (idx_miss (p := p) (l := l) (fun j hj => HF.out j hj (by have := HI.out; have := Hn.out; omega))); go_wp2; go_ret
   (rw [show Lib.idxByFrom (fun _ y => p y) 0 l 0 = _ from HE.out])
   exact ⟨rfl, HB.out⟩
theorem delete_int (p : Int → Bool) (g : Nat) (q : Value) (eg : ∀ args w, (callFunc g args).run Tryz.prog w = .ok (.enter g args) w) (base : Nat) (P0 : Nat → Prop) (gb cap n : Nat) (l : List Int) (w : World)
  (hR : Kd.R kI 3 w base P0 (.slice (some ⟨gb, 0, none⟩) n cap) l) (hp : AnswersI w (some gb) g q p l) :
  Calls Tryz.prog 39 #[.slice (some ⟨gb, 0, none⟩) n cap, .func (.func g) #[q] #[]] w fun e w' => e = .returned (.slice (some ⟨gb, 0, none⟩) (l.filter fun x => !p x).length cap) ∧ Kd.R kI 3 w' base P0 (.slice (some ⟨gb, 0, none⟩) (l.filter fun x => !p x).length cap) (l.filter fun x => !p x) ∧ w.grownBy w' (some gb) := by
 have hI := index_int p g q eg base P0 gb cap n l w hR (fun W hg x => hp W ⟨hg.os, hg.tape, hg.output, hg.size, fun k hk _ => hg.block k hk (by simp)⟩ x); obtain ⟨hn, hnc, hC⟩ := Kd.R_reads' hR; have hmax := hC.2.1; clear hC; have HR := Lib.hid hR; have HP := Lib.hid hp; have Hn := Lib.hid hn; clear hR hp hn; rcases Rg.first_of p l 0 with ⟨e1, hall⟩ | ⟨k0, hk0, e1, hf⟩
 ·
  rw [e1] at hI; have hall' : l.filter (fun x => !p x) = l := List.filter_eq_self.2 fun x hx => by rw [hall x hx]; rfl
  have HI := Lib.hid hI; clear hI e1 hall; go_enter Tryz.func39, Tryz.ntmps39
  go_wp2_with fail
  with_reducible refine HI.out.mono ?_
  rintro e w1 ⟨rfl, hb1⟩; have Hb1 := Lib.hid hb1; clear hb1; go_wp2; go_ret; rw [hall', ← Hn.out]; exact ⟨rfl, Kd.R_below HR.out Hb1.out, grown_of_below Hb1.out _⟩
 ·
  rw [e1, Nat.zero_add] at hI; have HI := Lib.hid hI; have Hf := Lib.hid hf; clear hI e1 hf; have hne1 : ((k0 : Int) == -1) = false := beq_eq_false_iff_ne.2 (by omega); have hkn : k0 < n := by have := Hn.out; omega
  go_enter Tryz.func39, Tryz.ntmps39
  go_wp2_with fail
  with_reducible refine HI.out.mono ?_
  rintro e w1 ⟨rfl, hb1⟩; have Hb1 := Lib.hid hb1; clear hb1; go_wp2; go_loopg [5, 6, 7] n (fun gg s5 s6 _ wr => ∃ (i j : Nat) (dk : List Int), s5 = .int .i64 i ∧ s6 = .int .i64 j ∧ i < j ∧ j ≤ n ∧ n - j ≤ gg ∧ Hid (i = ((l.take j).filter (fun x => !p x)).length) ∧ Hid (dk.length = n) ∧ Hid (dk.take i = (l.take j).filter (fun x => !p x)) ∧ Hid (dk.drop j = l.drop j) ∧ Hid (Kd.R kI 3 wr base P0 (.slice (some ⟨gb, 0, none⟩) n cap) dk) ∧ Hid (w.grownBy wr (some gb)))
  case atStart =>
   have hk : (l.take (k0 + 1)).filter (fun x => !p x) = l.take k0 := by
    have h2 := Hf.out; have h3 : l.filter (fun x => !p x) = (l.take (k0 + 1)).filter (fun x => !p x) ++ (l.drop (k0 + 1)).filter (fun x => !p x) := by rw [← List.filter_append, List.take_append_drop]
    rw [h3] at h2; exact List.append_cancel_right h2
   exact ⟨k0, k0 + 1, l, rfl, by go_num, by omega, by omega, by omega, Lib.hid (by rw [hk, List.length_take]; have := Hn.out; omega), Lib.hid Hn.out.symm, Lib.hid hk.symm, Lib.hid rfl, Lib.hid (Kd.R_below HR.out Hb1.out), Lib.hid (grown_of_below Hb1.out _)⟩
  case round =>
   obtain ⟨i, j, dk, rfl, rfl, hij, hjn, hgg, Hi, Hl, Ht, Hd, HD, HG⟩ := hrel
   by_cases hlt : j < n
   ·
    have hlti : (j : Int) < (n : Int) := by omega
    have hjd : j < dk.length := by have := Hl.out; omega
    have hjl : j < l.length := by have := Hn.out; omega
    obtain ⟨x, hx⟩ : ∃ x, dk.getD j 0 = x := ⟨_, rfl⟩
    have hxl : l[j]? = some x := by
     have h1 : dk[j]? = some x := by rw [← hx, List.getD_eq_getElem?_getD, List.getElem?_eq_getElem hjd]; rfl
     have h2 := congrArg (·[0]?) Hd.out; simpa [List.getElem?_drop, h1] using h2.symm
    have hstep : (l.take (j + 1)).filter (fun x => !p x) = (l.take j).filter (fun x => !p x) ++ (if p x = true then [] else [x]) := by
     rw [List.take_add_one, hxl, Option.toList_some, List.filter_append]
     congr 1
     cases h : p x <;> simp [h]
    have Hstep := Lib.hid hstep; obtain ⟨c, hcl, hM, hcc, hfr⟩ := Kd.R_elem HD.out 0 (j : Int) (by omega) (by omega); rw [Int.toNat_natCast, hx] at hM; obtain rfl : c = [.int .i64 _] := hM; have c0 : wr.cell? ⟨gb, j, none⟩ = some (.int .i64 x) := by have h_ := hcc 0 _ rfl; rw [Int.toNat_natCast, show kI.sz = 1 from rfl, Nat.mul_one, Nat.add_zero] at h_; exact h_
    have hgbl : gb < wr.heap.size := by
     obtain ⟨_, inner, ho, _⟩ := HD.out; exact own_lt ho gb rfl
    have Hxl := Lib.hid hxl; clear hx hxl hcl hcc hfr hstep; have HC := Lib.hid (HP.out _ HG.out x (List.mem_of_getElem? Hxl.out)); have Hag := HG; have HDa := HD
    cases hpx : p x with
    | true =>
     have HC2 : Hid _ := Lib.hid HC.out; rw [hpx] at HC2; have Hpx := Lib.hid hpx; clear hpx HC; go_wp2_with fail
     with_reducible refine HC2.out.mono ?_
     rintro e w2 ⟨rfl, hb2⟩; have Hb2 := Lib.hid hb2; clear hb2 c0; go_wp2; go_roundg (n - (j + 1))
     case measure => omega
     case rel =>
      exact ⟨i, j + 1, dk, rfl, by go_num, by omega, by omega, Nat.le_refl _, Lib.hid (by rw [Hstep.out, Hpx.out, if_pos rfl, List.append_nil]; exact Hi.out), Hl, Lib.hid (by rw [Hstep.out, Hpx.out, if_pos rfl, List.append_nil]; exact Ht.out), Lib.hid (by rw [← List.drop_drop, Hd.out, List.drop_drop]), Lib.hid (Kd.R_below HDa.out Hb2.out), Lib.hid ⟨Hb2.out.os.trans Hag.out.os, Hb2.out.tape.trans Hag.out.tape, Hb2.out.output.trans Hag.out.output, Nat.le_trans Hag.out.size Hb2.out.size, fun k hk hne => (Hb2.out.block k (Nat.lt_of_lt_of_le hk Hag.out.size)).trans (Hag.out.block k hk hne)⟩⟩
    | false =>
     have HC2 : Hid _ := Lib.hid HC.out; rw [hpx] at HC2; have Hpx := Lib.hid hpx; clear hpx HC; go_wp2_with fail
     with_reducible refine HC2.out.mono ?_
     rintro e w2 ⟨rfl, hb2⟩; have Hb2 := Lib.hid hb2; have HD2 := Lib.hid (Kd.R_below HDa.out hb2); have HG2 : Hid (w.grownBy w2 (some gb)) := Lib.hid ⟨hb2.os.trans Hag.out.os, hb2.tape.trans Hag.out.tape, hb2.output.trans Hag.out.output, Nat.le_trans Hag.out.size hb2.size, fun k hk hne => (hb2.block k (Nat.lt_of_lt_of_le hk Hag.out.size)).trans (Hag.out.block k hk hne)⟩; obtain ⟨c, hcl, hM, hcc, hfr⟩ := Kd.R_elem HD2.out 0 (i : Int) (by omega) (by omega); rw [Int.toNat_natCast] at hM hcc hfr; have Hseg := Lib.hid (Kd.R_seg HD2.out (i : Int) (by omega) (by omega) (seg := [.int .i64 x]) (j := 0) hcl (by rw [Int.toNat_natCast]; exact hcc) (by rw [show kI.sz = 1 from rfl]; exact Nat.le_refl 1) (x' := x) (okp := fun k_ => (P0 k_ ∧ k_ ≠ gb)) (by have e1 : c.drop 1 = [] := List.drop_eq_nil_of_le (by rw [hcl]; exact Nat.le_refl 1); simp only [List.take_zero, List.nil_append]; rw [show 0 + [Value.int .i64 x].length = 1 from rfl, e1, List.append_nil]; exact rfl) (fun _ hk => hk)); obtain rfl : c = [.int .i64 _] := hM; have d0 : w2.cell? ⟨gb, i, none⟩ = some (.int .i64 (dk.getD i 0)) := by have h_ := hcc 0 _ rfl; rw [show kI.sz = 1 from rfl, Nat.mul_one, Nat.add_zero] at h_; exact h_
     have f0 : w2.frozen? ⟨gb, i, none⟩ = false := by have h_ := hfr 0; rw [show kI.sz = 1 from rfl, Nat.mul_one, Nat.add_zero] at h_; exact h_
     clear hb2 c0 hcl hcc hfr; go_wp2; go_roundg (n - (j + 1))
     case measure => omega
     case rel =>
      refine ⟨i + 1, j + 1, dk.set i x, by go_num, by go_num, by omega, by omega, Nat.le_refl _, Lib.hid ?_, Lib.hid (by rw [List.length_set]; exact Hl.out), Lib.hid ?_, Lib.hid ?_, ?_, ?_⟩
      ·
       rw [Hstep.out, Hpx.out, if_neg (by simp), List.length_append, ← Hi.out]; rfl
      ·
       have hid : i < dk.length := by have := Hl.out; omega
       rw [Hstep.out, Hpx.out, if_neg (by simp), ← Ht.out, List.take_add_one, List.getElem?_set_self hid, Option.toList_some, List.take_set_of_le (Nat.le_refl i)]
      ·
       rw [List.drop_set_of_lt (by omega), ← List.drop_drop, Hd.out, List.drop_drop]
      ·
       have h := Hseg.out.1; rw [Int.toNat_natCast, show kI.sz = 1 from rfl, Nat.mul_one, Nat.add_zero] at h; exact Lib.hid h
      ·
       have h := Hseg.out.2; rw [Int.toNat_natCast, show kI.sz = 1 from rfl, Nat.mul_one, Nat.add_zero] at h
       have h3 : w.grownBy (w2.setCells gb i [.int .i64 x]) (some gb) := ⟨h.os.trans HG2.out.os, h.tape.trans HG2.out.tape, h.output.trans HG2.out.output, Nat.le_trans HG2.out.size h.size, fun k hk hne => (h.block k (Nat.lt_of_lt_of_le hk HG2.out.size) hne).trans (HG2.out.block k hk hne)⟩
       exact Lib.hid h3
   ·
    obtain rfl : j = n := by omega
    have hlti : ¬ (j : Int) < (j : Int) := by omega
    have hid : i ≤ dk.length := by have := Hl.out; omega
    have hfin : (l.take j).filter (fun x => !p x) = l.filter (fun x => !p x) := by rw [List.take_of_length_le (by have := Hn.out; omega)]
    have Hfin := Lib.hid hfin
    obtain ⟨vs, hvs⟩ : ∃ vs, (Builtin.zeroCells #[Value.int .i64 0] (j - i)).toList = vs := ⟨_, rfl⟩
    have hcl : ∀ ty, (Builtin.clear_ #[22] ty #[.slice (some ⟨gb, i, none⟩) (j - i) (cap - i)]).run Tryz.prog wr = .ok (.tuple #[]) (wr.setCells gb i vs) := fun ty => by
     rw [← hvs]; refine run_clear_row wr 22 3 ty _ _ Tryz.underlying22 zeroI rfl (by decide +kernel) gb i (j - i) (cap - i) (by omega) (fun t ht => ?_) (fun t ht => ?_)
     ·
      have ht4 : t < (j - i) * 1 := ht; obtain ⟨c, hc1, hM, hcc, hfr⟩ := Kd.R_elem HD.out 0 ((i + t : Nat) : Int) (by omega) (by omega); rw [Int.toNat_natCast] at hcc hM; obtain rfl : c = [.int .i64 _] := hM; have := hcc 0 _ rfl; rw [show (i + t) * kI.sz + 0 = i + t from by show (i + t) * 1 + 0 = _; omega] at this; rw [this]; rfl
     ·
      have ht4 : t < (j - i) * 1 := ht; obtain ⟨c, hc1, hM, hcc, hfr⟩ := Kd.R_elem HD.out 0 ((i + t : Nat) : Int) (by omega) (by omega); have := hfr 0; rw [Int.toNat_natCast, show (i + t) * kI.sz + 0 = i + t from by show (i + t) * 1 + 0 = _; omega] at this; exact this
    have Hp := Lib.hid (Past.R_past vs i wr (Kd.R_take HD.out hid) (by rw [List.length_take, Nat.min_eq_left hid]; show i * 1 ≤ i; omega)); clear hvs hid; go_wp2; go_ret; have h := Hp.out; rw [Ht.out, Hfin.out] at h; have hi := Hi.out; rw [Hfin.out] at hi; rw [← hi]; exact ⟨rfl, h.1, ⟨h.2.os.trans HG.out.os, h.2.tape.trans HG.out.tape, h.2.output.trans HG.out.output, Nat.le_trans HG.out.size h.2.size, fun k hk hne => (h.2.block k (Nat.lt_of_lt_of_le hk HG.out.size) hne).trans (HG.out.block k hk hne)⟩⟩
end Bt
end Go.Proofs.YtiinmagnpkfbbaaGreat
end
section
set_option maxHeartbeats 2000000
set_option maxRecDepth 100000
namespace Go.Proofs.YtiinmagnpkfbbaaGreat
set_option linter.unusedVariables false
set_option linter.unusedSimpArgs false
open Go.RowKit Go.Proofs.YtiinmagnpkfbbaaGreatW.PrintWords Go.Proofs.YtiinmagnpkfbbaaGreatW.PrintLast Go.Proofs.YtiinmagnpkfbbaaGreatW.PrintMore Go.Proofs.YtiinmagnpkfbbaaGreat.QT
namespace Bt
theorem info3 : (Tryz.prog.info? 3).map (fun i => (i.zero, i.size, i.bytes)) = some (some (.int .i64 0), 1, 8) := by kernel_rfl
theorem R_single (W : World) (x : Int) (B gl : Nat) (hB : B ≤ W.heap.size) (hg : gl = W.heap.size) : Kd.R kI 3 (W.alloc (.cells #[.int .i64 x] 3)) B (fun _ => True) (.slice (some ⟨gl, 0, none⟩) 1 1) [x] := by
 subst hg; refine ⟨fun _ _ => trivial, [.int .i64 x], World.ownsRow_lit (base := B) (e := 3) (size := 1) W #[.int .i64 x] 1 hB (by decide) rfl, rfl, fun j p hj => ?_⟩
 cases j with
 | zero => cases hj; rfl
 | succ j => cases hj
theorem enter40 : ∀ args w, (callFunc 40 args).run Tryz.prog w = .ok (.enter 40 args) w := fun args w => by kernel_rfl
def wantsOf (b : Bo) : List Int := if leftOf b = [] ∨ b.own.f1 ≠ 1 then [] else (b.own.f2 :: b.oth).filter (fun n => !gave b.gv n)
def Wants.T3 : Bool × List (List Nat × List Nat) := (true, [([], []), ([0], [0]), ([1], [1]), ([2], [2]), ([3], [3]), ([4], [4]), ([], []), ([6], [6]), ([7], [7]), ([8], [8]), ([5, 9], [5, 9]), ([], []), ([11], [11]), ([10, 12, 10], [10, 12]), ([13, 13, 0, 1, 2, 3, 4, 5, 6, 7, 8, 9, 10, 11, 12, 13], [13])])
def Wants.B3 : List Nat := [0, 1, 3, 7, 15, 31, 0, 64, 192, 448, 1023, 0, 2048, 8191, 16383]
theorem Wants.tab3 : rtab .any (opsOf Tryz.f15 3) = Wants.T3 := by kernel_rfl
theorem Wants.bits3 : waitsOk Wants.T3.2 Wants.B3 = true := by kernel_rfl
theorem wants_calls (w : World) (B g gm gp : Nat) (vO vL : Value) (b : Bo) (h : Is w B g gm gp vO vL b) (hw : Wf b) :
  Calls Tryz.prog 15 #[.pointer (some ⟨g, 0, none⟩)] w fun e w' => ∃ v : Value, e = .returned v ∧ Kd.R kI 3 w' w.heap.size (fun _ => True) v (wantsOf b) ∧ Below w.heap.size w w' := by
 obtain ⟨AO, cO, rfl⟩ := Kd.R_slice h.oth; have HD := Lib.hid (done_calls w B g gm gp _ vL b h hw); have HI := Lib.hid h; have HLO := Lib.hid hw.l1; have HWF := Lib.hid (show ∀ x ∈ b.own.f2 :: b.oth, (Lit.int .i64 x).wf = true from fun x hx => by rcases List.mem_cons.1 hx with rfl | hx; exact hw.src; exact hw.oth x hx); clear h hw
 by_cases hl : leftOf b = []
 ·
  rw [decide_eq_true hl] at HD; have HE := Lib.hid (show wantsOf b = [] by unfold wantsOf; rw [if_pos (Or.inl hl)]); clear hl; go_enter Tryz.func15, Tryz.ntmps15
  go_wp2_with fail
  with_reducible refine HD.out.mono ?_
  rintro e w1 ⟨rfl, hb1⟩; have HB1 := Lib.hid hb1; clear hb1 HD; go_wp2; go_ret; exact ⟨_, rfl, by rw [HE.out]; exact Kd.R_nil _ _ _ _ _, HB1.out⟩
 ·
  rw [decide_eq_false hl] at HD; have HL := Lib.hid hl; clear hl; go_enter Tryz.func15, Tryz.ntmps15
  go_wp2_with fail
  with_reducible refine HD.out.mono ?_
  rintro e w1 ⟨rfl, hb1⟩; have HB1 := Lib.hid hb1; have HI1 := Lib.hid (HI.out.below hb1); clear hb1 HD; go_wp2_with fail
  with_reducible refine (init_calls _ g b.own.f1 ((blk_cell HI1.out.blk 1).trans rfl)).mono ?_
  rintro e w9 ⟨rfl, rfl⟩
  by_cases hst : b.own.f1 = 1
  ·
   have d1 : (b.own.f1 == 1) = true := beq_iff_eq.2 hst; have HE := Lib.hid (show wantsOf b = (b.own.f2 :: b.oth).filter (fun n => !gave b.gv n) by unfold wantsOf; rw [if_neg (fun h => h.elim HL.out (fun h => h hst))]); have c2 : w1.cell? ⟨g, 2, none⟩ = some (.int .i64 b.own.f2) := (blk_cell HI1.out.blk 2).trans rfl; have c3 : w1.cell? ⟨g, 3, none⟩ = some (.slice AO b.oth.length cO) := (blk_cell HI1.out.blk 3).trans rfl; clear hst; go_wp2_with fail
   refine start_ (n := 15) (S := fun w' => w'.cell? ⟨g, 2, none⟩ = some (.int .i64 b.own.f2) ∧ w'.cell? ⟨g, 3, none⟩ = some (.slice AO b.oth.length cO)) (ds := [10, 13]) (bs 15 0) (by kernel_rfl) rfl rfl ⟨c2, c3⟩ (fun hHeld => ?_); refine with_tabW Wants.tab3 Wants.bits3 (fun HT_ HW_ => ?_); apply pv 0 10 (bs 15 1) HT_; rfl; rfl; kernel_rfl; exact qq; rfl; intro w'; go_simp; with_reducible rfl; simp only [zz]; rfl
   apply pv 1 11 (bs 15 3) HT_; rfl; rfl; kernel_rfl; exact qq; rfl; intro w'; go_simp; with_reducible rfl; simp only [zz]; rfl
   apply pv 2 12 (bs 15 7) HT_; rfl; rfl; kernel_rfl; exact qq; rfl; intro w'; go_simp; with_reducible rfl; simp only [zz]; rfl
   apply pv 3 13 (bs 15 15) HT_; rfl; rfl; kernel_rfl; exact qq; rfl; intro w'; go_simp; with_reducible rfl; simp only [zz]; rfl
   apply pv 6 16 (bs 15 79) HT_; rfl; rfl; kernel_rfl; exact qq; rfl; intro w'; go_simp; with_reducible rfl; simp only [zz]; rfl
   apply pv 7 17 (bs 15 207) HT_; rfl; rfl; kernel_rfl; exact qq; rfl; intro w'; go_simp; with_reducible rfl; simp only [zz]; rfl
   apply pv 8 18 (bs 15 463) HT_; rfl; rfl; kernel_rfl; exact qq; rfl; intro w'; go_simp; with_reducible rfl; simp only [zz]; rfl
   apply pv 11 21 (bs 15 2511) HT_; rfl; rfl; kernel_rfl; exact qq; rfl; intro w'; go_simp; with_reducible rfl; simp only [zz]; rfl
   apply pv 12 22 (bs 15 6607) HT_; rfl; rfl; kernel_rfl; exact qq; rfl; intro w'; go_simp; with_reducible rfl; simp only [zz]; rfl
   apply tb 4 14 (bs 15 6623) HT_ HW_ hHeld; rfl; rfl; kernel_rfl; exact qq; rfl; rintro w' ⟨s0, s1⟩; go_simp; with_reducible rfl; simp only [zz]; rfl
   apply tb 9 19 (bs 15 7135) HT_ HW_ hHeld; rfl; rfl; kernel_rfl; exact qq; rfl; rintro w' ⟨s0, s1⟩; go_simp; with_reducible rfl; simp only [zz]; rfl
   refine one_ (i := 5) (N := some 15) (bs 15 7167) rfl rfl (one_of HT_.out (by kernel_rfl)) (by decide) (fun K hK => ?_); refine value_ (w1 := ?_) (v := ?_) (by rfl) rfl ?_ ?_; rotate_left 2
   ·
    go_simp
    constructor
    ·
     rfl
    ·
     rfl
   have hBX := below_drew (below_alloc (Below.refl w1.heap.size w1) (.cells #[.int .i64 b.own.f2] 3))
   obtain ⟨gl, hgl⟩ : ∃ gl, gl = w1.heap.size := ⟨_, rfl⟩
   have hRL := Kd.R_drew (R_single w1 b.own.f2 w.heap.size gl HB1.out.size hgl)
   obtain ⟨X1, hX1⟩ : ∃ X1 : World, X1 = (w1.alloc (.cells #[.int .i64 b.own.f2] 3)).drew := ⟨_, rfl⟩
   rw [← hX1] at hRL hBX; rw [← hX1, ← hgl]; have HIX := Lib.hid (HI1.out.below hBX); have HBX := Lib.hid hBX; have HRL := Lib.hid hRL; have HGL := Lib.hid hgl; clear hRL hBX hX1 hgl; refine hK.out _ _ ⟨((blk_cell HIX.out.blk 2).trans rfl), ((blk_cell HIX.out.blk 3).trans rfl)⟩ (fun hHeld => ?_); clear hK K; refine norm_ (a' := ?_) ?_ ?_; rotate_left
   ·
    show Act.put _ (some 15) _ = _; simp only [Act.put, List.setIfInBounds_toArray, List.set_cons_zero, List.set_cons_succ, i64_w, i32_w]; rfl
   refine last_ (i := 10) (N := some 20) (bs 15 8191) rfl rfl (one_of HT_.out (by kernel_rfl)) (by decide) (fun K hK => ?_); refine Kd.R_append_rows_step kI (Rr := fun x cs => cs = [.int .i64 x]) (w0 := w) w.heap.size (by rfl) (.tmp 15) (.tmp 19) 22 3 (.int .i64 0) 8 (by rfl) Tryz.underlying22 info3 (by rfl) (by decide) (by decide) (.slice (some ⟨gl, 0, none⟩) 1 1) [b.own.f2] b.oth AO b.oth.length cO (fun _ => True) (fun _ => False) (by rfl) (by rfl) HRL.out (Kd.R_reads' HIX.out.oth).2.2 (fun _ _ h => h) (fun _ h => h.elim) (fun _ _ => trivial) (below_then HB1.out HB1.out.size HBX.out) (Nat.le_trans HB1.out.size HBX.out.size) (by have := HLO.out; simp only [List.length_singleton]; omega) ?_; intro v5 X2 hR5 hB5 hg5 hat5; have hB2 : Below w1.heap.size w1 X2 := HBX.out.grown hg5 HBX.out.size (fun k hk => Nat.le_of_eq (HGL.out.symm.trans (by simpa [Value.ownBlock] using hk)))
   have hown : ∀ k, v5.ownBlock = some k → w1.heap.size ≤ k := fun k hk => by
    rcases hat5 with h | ⟨q, h, hq⟩
    ·
     rw [hk] at h; exact Nat.le_of_eq (HGL.out.symm.trans (by simpa [Value.ownBlock] using h.symm))
    ·
     rw [hk] at h; cases h; have := HBX.out.size; omega
   obtain ⟨n5, c5, gb, rfl⟩ : ∃ n5 c5 gb, v5 = .slice (some ⟨gb, 0, none⟩) n5 c5 := by
    obtain ⟨inner, ho⟩ := Kd.R_own hR5
    rcases ho with ⟨_, ⟨_, h0⟩ | ⟨gb, cap, cur, e, _⟩⟩
    ·
     simp at h0
    ·
     exact ⟨_, _, gb, e⟩
   have HI2 := Lib.hid (HI1.out.below hB2); have HGB := Lib.hid (hown gb rfl); have hdel := delete_int (fun n => gave b.gv n) 40 (.pointer (some ⟨g, 0, none⟩)) enter40 w.heap.size (fun _ => True) gb c5 n5 _ X2 hR5 (fun W hg x hx => gave_calls W g gm b.gv ((blk_cell ((hg.block g (blk_lt HI2.out.blk) (fun e => by have h1 := blk_lt HI1.out.blk; have h2 := HGB.out; cases e; omega)).trans HI2.out.blk) 4).trans rfl) (XM.MapIs.kept HI2.out.gv hg (fun e => by have h1 := XM.MapIs.lt HI1.out.gv; have h2 := HGB.out; cases e; omega)) x (HWF.out x hx)); have HDE := Lib.hid hdel; have HB5 := Lib.hid hB5; clear hR5 hB5 hg5 hat5 hB2 hown hdel; refine hK.out _ _ ?_; clear hK K; refine norm_ (a' := ?_) ?_ ?_; rotate_left
   ·
    show Act.put _ (some 20) _ = _; simp only [Act.put, List.setIfInBounds_toArray, List.set_cons_zero, List.set_cons_succ, i64_w, i32_w]; rfl
   refine last_ (i := 13) (N := some 23) (bs 15 16383) rfl rfl (one_of HT_.out (by kernel_rfl)) (by decide) (fun K hK => ?_); refine goes_ Tryz.func39 (by kernel_rfl) rfl #[.slice (some ⟨gb, 0, none⟩) n5 c5, .func (.func 40) #[.pointer (some ⟨g, 0, none⟩)] #[]] (by rfl) rfl rfl (by simp only [List.map_toArray, List.map_cons, List.map_nil]; rfl) ?_; with_reducible refine (HDE.out).mono ?_
   rintro e w9 ⟨rfl, hR9, hg9⟩; refine ⟨_, rfl, ?_⟩; have HR9 := Lib.hid hR9; have HB9 := Lib.hid (HB5.out.grown hg9 HB5.out.size (fun k hk => by cases hk; have h1 := HGB.out; have h2 := HB1.out.size; omega)); clear hR9 hg9; refine hK.out _ _ ?_; clear hK K; refine norm_ (a' := ?_) ?_ ?_; rotate_left
   ·
    show Act.put _ (some 23) _ = _; simp only [Act.put, List.setIfInBounds_toArray, List.set_cons_zero, List.set_cons_succ, i64_w, i32_w]; rfl
   apply pv 14 2 (bs 15 32767) HT_; rfl; rfl; kernel_rfl; exact qq; rfl; intro w'; go_simp; with_reducible rfl; simp only [zz]; rfl
   refine done_ (done_of HT_.out (by kernel_rfl)) ?_; go_wp2; go_ret; exact ⟨_, rfl, by rw [HE.out]; exact HR9.out, HB9.out⟩
  ·
   have d1 : (b.own.f1 == 1) = false := beq_eq_false_iff_ne.2 hst; have HE := Lib.hid (show wantsOf b = [] by unfold wantsOf; rw [if_pos (Or.inr hst)]); clear hst; go_wp2; go_ret; exact ⟨_, rfl, by rw [HE.out]; exact Kd.R_nil _ _ _ _ _, HB1.out⟩
end Bt
end Go.Proofs.YtiinmagnpkfbbaaGreat
end
section
namespace Go.Proofs.YtiinmagnpkfbbaaGreat
set_option linter.unusedVariables false
set_option linter.unusedSimpArgs false
open Go.RowKit Go.Proofs.YtiinmagnpkfbbaaGreatW.PrintWords Go.Proofs.YtiinmagnpkfbbaaGreatW.PrintLast Go.Proofs.YtiinmagnpkfbbaaGreatW.PrintMore Go.Proofs.YtiinmagnpkfbbaaGreat.QT
namespace Pl
structure RF (l : List Ow) : Prop where
 up : l.Pairwise (fun a b => a.f0 < b.f0)
 nb : ∀ o ∈ l, 0 ≤ o.f0 ∧ o.f0 < 8
 src : ∀ o ∈ l, o.f1 = 1 → ∃ q ∈ l, q.f0 = o.f2 ∧ q.f1 = 3
 st : ∀ o ∈ l, o.f1 = 1 ∨ o.f1 = 2 ∨ o.f1 = 3
 three : (l.filter (fun o => o.f1 != 3)).length = 3
theorem ix_get {α : Type} {p : α → Bool} {l : List α} {d : α} (h : 0 ≤ ix p l) : ∃ q ∈ l, p q = true ∧ l.getD (ix p l).toNat d = q := by
 unfold ix at h ⊢; rcases ix_ge p l 0 with ⟨e, _⟩ | ⟨k, e, hk, h2⟩
 ·
  omega
 ·
  refine ⟨_, List.getElem_mem hk, h2, ?_⟩; rw [e, Nat.zero_add, Int.toNat_natCast, List.getD_eq_getElem?_getD, List.getElem?_eq_getElem hk]; rfl
theorem right_facts {nodes : List Int} {l : List Ow} (h : rightP nodes l = true) : RF l := by
 unfold rightP at h; simp only [Bool.and_eq_true, List.all_eq_true, beq_iff_eq] at h; obtain ⟨h1, h2, h3⟩ := h
 have get4 : ∀ o ∈ l, ∃ i, i < l.length ∧ l.getD i z57 = o ∧ nodeB o.f0 = true ∧ (i = 0 ∨ (rd_T57 l ((i : Int) - 1)).f0 < o.f0) ∧ stB l o = true := by
  intro o ho; obtain ⟨i, hi, rfl⟩ := List.mem_iff_getElem.1 ho; have := h1 i (List.mem_range.2 hi); unfold okAt okO at this; rw [getD_at hi] at this; simp only [Bool.and_eq_true, Bool.or_eq_true, beq_iff_eq, decide_eq_true_eq] at this; exact ⟨i, hi, getD_at hi, this.1, this.2.1, this.2.2.1⟩
 refine ⟨up_of fun i hi => ?_, fun o ho => ?_, fun o ho h => ?_, fun o ho => ?_, h3⟩
 ·
  have := h1 i (List.mem_range.2 hi); unfold okAt okO at this; simp only [Bool.and_eq_true, Bool.or_eq_true, beq_iff_eq, decide_eq_true_eq] at this; exact this.2.1
 ·
  obtain ⟨i, _, _, hn, _⟩ := get4 o ho; unfold nodeB at hn; simpa using hn
 ·
  obtain ⟨i, _, _, _, _, hs⟩ := get4 o ho; unfold stB at hs; rw [if_pos h] at hs; simp only [Bool.and_eq_true, decide_eq_true_eq, beq_iff_eq] at hs; obtain ⟨q, hq, hp, e⟩ := ix_get (d := z57) hs.1; refine ⟨q, hq, by unfold at_ at hp; simpa using hp, ?_⟩; have := hs.2; unfold rd_T57 at this; rw [e] at this; exact this
 ·
  obtain ⟨i, _, _, _, _, hs⟩ := get4 o ho; unfold stB at hs
  by_cases h : o.f1 = 1
  ·
   exact .inl h
  ·
   rw [if_neg h] at hs; simp only [Bool.and_eq_true, Bool.or_eq_true, beq_iff_eq] at hs; exact .inr hs.1
theorem up_len : ∀ (l : List Ow) (a : Int), l.Pairwise (fun a b => a.f0 < b.f0) → (∀ o ∈ l, a ≤ o.f0 ∧ o.f0 < 8) → l.length ≤ (8 - a).toNat
 | [], _, _, _ => Nat.zero_le _
 | x :: r, a, hp, h => by
  obtain ⟨h1, h2⟩ := List.pairwise_cons.1 hp; have hx := h x List.mem_cons_self; have ih := up_len r (a + 1) h2 (fun o ho => ⟨by have := h1 o ho; omega, (h o (List.mem_cons_of_mem _ ho)).2⟩); rw [List.length_cons]; omega
theorem RF.len {l : List Ow} (h : RF l) : l.length ≤ 8 := up_len l 0 h.up h.nb
theorem RF.one {l : List Ow} (h : RF l) {a b : Ow} (ha : a ∈ l) (hb : b ∈ l) (e : a.f0 = b.f0) : a = b := by
 obtain ⟨i, hi, rfl⟩ := List.mem_iff_getElem.1 ha; obtain ⟨j, hj, rfl⟩ := List.mem_iff_getElem.1 hb; rcases Nat.lt_trichotomy i j with h1 | h1 | h1
 ·
  have := (List.pairwise_iff_getElem.1 h.up) i j hi hj h1; omega
 ·
  subst h1; rfl
 ·
  have := (List.pairwise_iff_getElem.1 h.up) j i hj hi h1; omega
theorem check_right {V : Int} {nodes : List Int} {shards : List (List Ow)} (h : checkP V nodes shards = 0) {l : List Ow} (hl : l ∈ shards) : RF l := by
 unfold checkP at h
 by_cases hc : checkB V nodes shards = true
 ·
  unfold checkB at hc; simp only [Bool.and_eq_true, List.all_eq_true] at hc; exact right_facts (hc.2.2 l hl)
 ·
  rw [if_neg hc] at h; cases h
/-- Who is found lies in the shard, under its number. -/
theorem find_mem {shards : List (List Ow)} {sh n : Int} (h : (findP shards sh n).2 = true) : 0 ≤ sh ∧ sh < shards.length ∧ rd_L4 shards sh ∈ shards ∧ (findP shards sh n).1 ∈ rd_L4 shards sh ∧ (findP shards sh n).1.f0 = n := by
 unfold findP at h ⊢
 by_cases hc : 0 ≤ sh ∧ sh < (shards.length : Int)
 ·
  rw [if_pos hc] at h ⊢; refine ⟨hc.1, hc.2, ?_, ?_⟩
  ·
   have : sh.toNat < shards.length := by omega
   unfold rd_L4; rw [List.getD_eq_getElem?_getD, List.getElem?_eq_getElem this]; exact List.getElem_mem this
  ·
   unfold findL at h ⊢
   by_cases hi : ix (at_ n) (rd_L4 shards sh) < 0
   ·
    rw [if_pos hi] at h; cases h
   ·
    rw [if_neg hi]; obtain ⟨q, hq, hp, e⟩ := ix_get (p := at_ n) (l := rd_L4 shards sh) (d := z57) (by omega)
    dsimp only
    unfold rd_T57; rw [e]; exact ⟨hq, by unfold at_ at hp; simpa using hp⟩
 ·
  rw [if_neg hc] at h; cases h
end Pl
end Go.Proofs.YtiinmagnpkfbbaaGreat
end
