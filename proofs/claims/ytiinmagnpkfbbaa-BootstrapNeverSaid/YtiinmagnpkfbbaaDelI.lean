/- slices.IndexFunc, DeleteFunc at whole numbers, whatever the predicate. -/
import Derived.Test.YtiinmagnpkfbbaaBootA
namespace Go.Proofs.Ytiinmagnpkfbbaa
set_option linter.unusedVariables false
set_option linter.unusedSimpArgs false
open Go.RowKit Go.Proofs.YtiinmagnpkfbbaaW.PrintWords Go.Proofs.YtiinmagnpkfbbaaW.PrintLast Go.Proofs.YtiinmagnpkfbbaaW.PrintMore Go.Proofs.Ytiinmagnpkfbbaa.QT
namespace Bt
theorem zeroI : ∀ w, (zeroValue 3).run Try.prog w = .ok (.int .i64 0) w := fun w => by kernel_rfl
def AnswersI (w0 : World) (gb : Option Nat) (g : Nat) (q : Value) (p : Int → Bool) (l : List Int) : Prop :=
  ∀ W, w0.grownBy W gb → ∀ x ∈ l, Calls Try.prog g #[q, .int .i64 x] W fun e w' => e = .returned (.bool (p x)) ∧ Below W.heap.size W w'
theorem idx_hit {p : Int → Bool} {l : List Int} {i : Nat} (h : i < l.length) (hp : ∀ j (hj : j < i), p (l[j]'(by omega)) = false) (ht : p l[i] = true) : Lib.idxByFrom (fun _ y => p y) default l 0 = (i : Int) := by
  have key : ∀ (l : List Int) (k i : Nat) (h : i < l.length), (∀ j (hj : j < i), p (l[j]'(by omega)) = false) → p l[i] = true → Lib.idxByFrom (fun _ y => p y) default l k = ((k + i : Nat) : Int) := by
    intro l
    induction l with
    | nil => intro k i h; simp at h
    | cons y r ih =>
      intro k i h hp ht
      cases i with
      | zero => simp only [List.getElem_cons_zero] at ht; simp [Lib.idxByFrom, ht]
      | succ i =>
        have h0 := hp 0 (by omega)
        simp only [List.getElem_cons_zero] at h0
        rw [List.getElem_cons_succ] at ht
        have := ih (k + 1) i (by simpa using h) (fun j hj => by have := hp (j + 1) (by omega); rwa [List.getElem_cons_succ] at this) ht
        simp only [Lib.idxByFrom, h0]
        rw [show (if false = true then (k : Int) else Lib.idxByFrom (fun _ y => p y) default r (k + 1)) = Lib.idxByFrom (fun _ y => p y) default r (k + 1) from rfl, this]
        congr 1
        omega
  have := key l 0 i h hp ht
  rwa [Nat.zero_add] at this
theorem idx_miss {p : Int → Bool} {l : List Int} (hp : ∀ j (hj : j < l.length), p l[j] = false) : Lib.idxByFrom (fun _ y => p y) default l 0 = -1 := by
  rcases Rg.first_of p l 0 with ⟨e, _⟩ | ⟨k, hk, e, hf⟩
  · exact e
  · have key : ∀ (l : List Int) (n : Nat), (∀ x ∈ l, p x = false) → Lib.idxByFrom (fun _ y => p y) default l n = -1 := by
      intro l
      induction l with
      | nil => intro n _; rfl
      | cons y r ih => intro n h; simp only [Lib.idxByFrom, h y List.mem_cons_self]; exact ih (n + 1) (fun x hx => h x (List.mem_cons_of_mem _ hx))
    exact key l 0 (fun x hx => by obtain ⟨j, hj, rfl⟩ := List.mem_iff_getElem.1 hx; exact hp j hj)
set_option maxHeartbeats 1000000 in
theorem index_int (p : Int → Bool) (g : Nat) (q : Value) (eg : ∀ args w, (callFunc g args).run Try.prog w = .ok (.enter g args) w) (base : Nat) (P0 : Nat → Prop) (gb cap n : Nat) (l : List Int) (w : World)
    (hR : Kd.R kI 3 w base P0 (.slice (some ⟨gb, 0, none⟩) n cap) l) (hp : AnswersI w none g q p l) :
    Calls Try.prog 39 #[.slice (some ⟨gb, 0, none⟩) n cap, .func (.func g) #[q] #[]] w fun e w' => e = .returned (.int .i64 (Lib.idxByFrom (fun _ y => p y) default l 0)) ∧ Below w.heap.size w w' := by
  obtain ⟨hn, hnc, hC⟩ := Kd.R_reads' hR
  have hmax := hC.2.1
  clear hC
  have HR := Lib.hid hR
  have HP := Lib.hid hp
  have Hn := Lib.hid hn
  have H0 := Lib.hid (Below.refl w.heap.size w)
  clear hR hp hn
  go_enter Try.func39, Try.ntmps39
  go_wp2
  go_loopg [5, 8] n (fun gg s5 s8 wr => ∃ (i : Nat), s8 = .int .i64 i ∧ Hid (gg = n - i) ∧ Hid (i ≤ n) ∧ Hid (∀ j (hj : j < l.length), j < i → p l[j] = false) ∧ Hid (Below w.heap.size w wr))
  case atStart => exact ⟨0, rfl, Lib.hid rfl, Lib.hid (Nat.zero_le _), Lib.hid (fun j hj h => by omega), H0⟩
  case round =>
    obtain ⟨i, rfl, HG, HI, HF, HB⟩ := hrel
    by_cases hlt : i < n
    · have hlti : (i : Int) < (n : Int) := by omega
      have hil : i < l.length := by have := Hn.out; omega
      have c0 : wr.cell? ⟨gb, i, none⟩ = some (.int .i64 l[i]) := by
        obtain ⟨c, hcl, hM, hcc, hfr⟩ := Kd.R_elem (Kd.R_below HR.out HB.out) 0 (i : Int) (by omega) (by omega)
        rw [Int.toNat_natCast] at hcc hM
        obtain rfl : c = [.int .i64 _] := hM
        have h_ := hcc 0 _ rfl
        rw [show kI.sz = 1 from rfl, Nat.mul_one, Nat.add_zero, List.getD_eq_getElem?_getD, List.getElem?_eq_getElem hil] at h_
        exact h_
      obtain ⟨x, hx⟩ : ∃ x, l[i] = x := ⟨_, rfl⟩
      rw [hx] at c0
      have HX := Lib.hid hx
      have HC := Lib.hid (HP.out wr (grown_of_below HB.out none) x (hx ▸ List.getElem_mem hil))
      clear hx
      cases hpx : p x with
      | true =>
        have HC2 : Hid _ := Lib.hid HC.out
        rw [hpx] at HC2
        have HE := Lib.hid (idx_hit (p := p) hil (fun j hj => HF.out j (by omega) hj) (by rw [HX.out]; exact hpx))
        clear hpx HC
        go_wp2_with fail
        with_reducible refine HC2.out.mono ?_
        rintro e w2 ⟨rfl, hb2⟩
        have HB2 := Lib.hid (below_then HB.out HB.out.size hb2)
        clear hb2 c0
        go_wp2
        go_ret
        first | rw [HE.out] | rw [show Lib.idxByFrom (fun _ y => p y) 0 l 0 = _ from HE.out]
        exact ⟨rfl, HB2.out⟩
      | false =>
        have HC2 : Hid _ := Lib.hid HC.out
        rw [hpx] at HC2
        have HPX := Lib.hid hpx
        clear hpx HC
        go_wp2_with fail
        with_reducible refine HC2.out.mono ?_
        rintro e w2 ⟨rfl, hb2⟩
        have HB2 := Lib.hid (below_then HB.out HB.out.size hb2)
        clear hb2 c0
        go_wp2
        go_roundg (n - (i + 1))
        case measure => have := HG.out; omega
        case rel => exact ⟨i + 1, by go_num, Lib.hid rfl, Lib.hid hlt, Lib.hid (fun j hj h => by
          by_cases e : j = i
          · subst e; rw [HX.out]; exact HPX.out
          · exact HF.out j hj (by omega)), HB2⟩
    · have hlti : ¬ (i : Int) < (n : Int) := by omega
      have HE := Lib.hid (idx_miss (p := p) (l := l) (fun j hj => HF.out j hj (by have := HI.out; have := Hn.out; omega)))
      go_wp2
      go_ret
      first | rw [HE.out] | rw [show Lib.idxByFrom (fun _ y => p y) 0 l 0 = _ from HE.out]
      exact ⟨rfl, HB.out⟩
set_option maxHeartbeats 2000000 in
theorem delete_int (p : Int → Bool) (g : Nat) (q : Value) (eg : ∀ args w, (callFunc g args).run Try.prog w = .ok (.enter g args) w) (base : Nat) (P0 : Nat → Prop) (gb cap n : Nat) (l : List Int) (w : World)
    (hR : Kd.R kI 3 w base P0 (.slice (some ⟨gb, 0, none⟩) n cap) l) (hp : AnswersI w (some gb) g q p l) :
    Calls Try.prog 21 #[.slice (some ⟨gb, 0, none⟩) n cap, .func (.func g) #[q] #[]] w fun e w' => e = .returned (.slice (some ⟨gb, 0, none⟩) (l.filter fun x => !p x).length cap) ∧ Kd.R kI 3 w' base P0 (.slice (some ⟨gb, 0, none⟩) (l.filter fun x => !p x).length cap) (l.filter fun x => !p x) ∧ w.grownBy w' (some gb) := by
  have hI := index_int p g q eg base P0 gb cap n l w hR (fun W hg x => hp W ⟨hg.os, hg.tape, hg.output, hg.size, fun k hk _ => hg.block k hk (by simp)⟩ x)
  obtain ⟨hn, hnc, hC⟩ := Kd.R_reads' hR
  have hmax := hC.2.1
  clear hC
  have HR := Lib.hid hR
  have HP := Lib.hid hp
  have Hn := Lib.hid hn
  clear hR hp hn
  rcases Rg.first_of p l 0 with ⟨e1, hall⟩ | ⟨k0, hk0, e1, hf⟩
  · rw [e1] at hI
    have hall' : l.filter (fun x => !p x) = l := List.filter_eq_self.2 fun x hx => by rw [hall x hx]; rfl
    have HI := Lib.hid hI
    clear hI e1 hall
    go_enter Try.func21, Try.ntmps21
    go_wp2_with fail
    with_reducible refine HI.out.mono ?_
    rintro e w1 ⟨rfl, hb1⟩
    have Hb1 := Lib.hid hb1
    clear hb1
    go_wp2
    go_ret
    rw [hall', ← Hn.out]
    exact ⟨rfl, Kd.R_below HR.out Hb1.out, grown_of_below Hb1.out _⟩
  · rw [e1, Nat.zero_add] at hI
    have HI := Lib.hid hI
    have Hf := Lib.hid hf
    clear hI e1 hf
    have hne1 : ((k0 : Int) == -1) = false := beq_eq_false_iff_ne.2 (by omega)
    have hkn : k0 < n := by have := Hn.out; omega
    go_enter Try.func21, Try.ntmps21
    go_wp2_with fail
    with_reducible refine HI.out.mono ?_
    rintro e w1 ⟨rfl, hb1⟩
    have Hb1 := Lib.hid hb1
    clear hb1
    go_wp2
    go_loopg [5, 6, 7] n (fun gg s5 s6 _ wr => ∃ (i j : Nat) (dk : List Int), s5 = .int .i64 i ∧ s6 = .int .i64 j ∧ i < j ∧ j ≤ n ∧ n - j ≤ gg ∧ Hid (i = ((l.take j).filter (fun x => !p x)).length) ∧ Hid (dk.length = n) ∧ Hid (dk.take i = (l.take j).filter (fun x => !p x)) ∧ Hid (dk.drop j = l.drop j) ∧ Hid (Kd.R kI 3 wr base P0 (.slice (some ⟨gb, 0, none⟩) n cap) dk) ∧ Hid (w.grownBy wr (some gb)))
    case atStart =>
      have hk : (l.take (k0 + 1)).filter (fun x => !p x) = l.take k0 := by
        have h2 := Hf.out
        have h3 : l.filter (fun x => !p x) = (l.take (k0 + 1)).filter (fun x => !p x) ++ (l.drop (k0 + 1)).filter (fun x => !p x) := by rw [← List.filter_append, List.take_append_drop]
        rw [h3] at h2
        exact List.append_cancel_right h2
      exact ⟨k0, k0 + 1, l, rfl, by go_num, by omega, by omega, by omega, Lib.hid (by rw [hk, List.length_take]; have := Hn.out; omega), Lib.hid Hn.out.symm, Lib.hid hk.symm, Lib.hid rfl, Lib.hid (Kd.R_below HR.out Hb1.out), Lib.hid (grown_of_below Hb1.out _)⟩
    case round =>
      obtain ⟨i, j, dk, rfl, rfl, hij, hjn, hgg, Hi, Hl, Ht, Hd, HD, HG⟩ := hrel
      by_cases hlt : j < n
      · have hlti : (j : Int) < (n : Int) := by omega
        have hjd : j < dk.length := by have := Hl.out; omega
        have hjl : j < l.length := by have := Hn.out; omega
        obtain ⟨x, hx⟩ : ∃ x, dk.getD j 0 = x := ⟨_, rfl⟩
        have hxl : l[j]? = some x := by
          have h1 : dk[j]? = some x := by rw [← hx, List.getD_eq_getElem?_getD, List.getElem?_eq_getElem hjd]; rfl
          have h2 := congrArg (·[0]?) Hd.out
          simpa [List.getElem?_drop, h1] using h2.symm
        have hstep : (l.take (j + 1)).filter (fun x => !p x) = (l.take j).filter (fun x => !p x) ++ (if p x = true then [] else [x]) := by
          rw [List.take_add_one, hxl, Option.toList_some, List.filter_append]
          congr 1
          cases h : p x <;> simp [h]
        have Hstep := Lib.hid hstep
        obtain ⟨c, hcl, hM, hcc, hfr⟩ := Kd.R_elem HD.out 0 (j : Int) (by omega) (by omega)
        rw [Int.toNat_natCast, hx] at hM
        obtain rfl : c = [.int .i64 _] := hM
        have c0 : wr.cell? ⟨gb, j, none⟩ = some (.int .i64 x) := by have h_ := hcc 0 _ rfl; rw [Int.toNat_natCast, show kI.sz = 1 from rfl, Nat.mul_one, Nat.add_zero] at h_; exact h_
        have hgbl : gb < wr.heap.size := by
          obtain ⟨_, inner, ho, _⟩ := HD.out
          exact own_lt ho gb rfl
        have Hxl := Lib.hid hxl
        clear hx hxl hcl hcc hfr hstep
        have HC := Lib.hid (HP.out _ HG.out x (List.mem_of_getElem? Hxl.out))
        have Hag := HG
        have HDa := HD
        cases hpx : p x with
        | true =>
          have HC2 : Hid _ := Lib.hid HC.out
          rw [hpx] at HC2
          have Hpx := Lib.hid hpx
          clear hpx HC
          go_wp2_with fail
          with_reducible refine HC2.out.mono ?_
          rintro e w2 ⟨rfl, hb2⟩
          have Hb2 := Lib.hid hb2
          clear hb2 c0
          go_wp2
          go_roundg (n - (j + 1))
          case measure => omega
          case rel =>
            exact ⟨i, j + 1, dk, rfl, by go_num, by omega, by omega, Nat.le_refl _, Lib.hid (by rw [Hstep.out, Hpx.out, if_pos rfl, List.append_nil]; exact Hi.out), Hl, Lib.hid (by rw [Hstep.out, Hpx.out, if_pos rfl, List.append_nil]; exact Ht.out), Lib.hid (by rw [← List.drop_drop, Hd.out, List.drop_drop]), Lib.hid (Kd.R_below HDa.out Hb2.out), Lib.hid ⟨Hb2.out.os.trans Hag.out.os, Hb2.out.tape.trans Hag.out.tape, Hb2.out.output.trans Hag.out.output, Nat.le_trans Hag.out.size Hb2.out.size, fun k hk hne => (Hb2.out.block k (Nat.lt_of_lt_of_le hk Hag.out.size)).trans (Hag.out.block k hk hne)⟩⟩
        | false =>
          have HC2 : Hid _ := Lib.hid HC.out
          rw [hpx] at HC2
          have Hpx := Lib.hid hpx
          clear hpx HC
          go_wp2_with fail
          with_reducible refine HC2.out.mono ?_
          rintro e w2 ⟨rfl, hb2⟩
          have Hb2 := Lib.hid hb2
          have HD2 := Lib.hid (Kd.R_below HDa.out hb2)
          have HG2 : Hid (w.grownBy w2 (some gb)) := Lib.hid ⟨hb2.os.trans Hag.out.os, hb2.tape.trans Hag.out.tape, hb2.output.trans Hag.out.output, Nat.le_trans Hag.out.size hb2.size, fun k hk hne => (hb2.block k (Nat.lt_of_lt_of_le hk Hag.out.size)).trans (Hag.out.block k hk hne)⟩
          obtain ⟨c, hcl, hM, hcc, hfr⟩ := Kd.R_elem HD2.out 0 (i : Int) (by omega) (by omega)
          rw [Int.toNat_natCast] at hM hcc hfr
          have Hseg := Lib.hid (Kd.R_seg HD2.out (i : Int) (by omega) (by omega) (seg := [.int .i64 x]) (j := 0) hcl (by rw [Int.toNat_natCast]; exact hcc) (by rw [show kI.sz = 1 from rfl]; exact Nat.le_refl 1) (x' := x) (okp := fun k_ => (P0 k_ ∧ k_ ≠ gb)) (by have e1 : c.drop 1 = [] := List.drop_eq_nil_of_le (by rw [hcl]; exact Nat.le_refl 1); simp only [List.take_zero, List.nil_append]; rw [show 0 + [Value.int .i64 x].length = 1 from rfl, e1, List.append_nil]; exact rfl) (fun _ hk => hk))
          obtain rfl : c = [.int .i64 _] := hM
          have d0 : w2.cell? ⟨gb, i, none⟩ = some (.int .i64 (dk.getD i 0)) := by have h_ := hcc 0 _ rfl; rw [show kI.sz = 1 from rfl, Nat.mul_one, Nat.add_zero] at h_; exact h_
          have f0 : w2.frozen? ⟨gb, i, none⟩ = false := by have h_ := hfr 0; rw [show kI.sz = 1 from rfl, Nat.mul_one, Nat.add_zero] at h_; exact h_
          clear hb2 c0 hcl hcc hfr
          go_wp2
          go_roundg (n - (j + 1))
          case measure => omega
          case rel =>
            refine ⟨i + 1, j + 1, dk.set i x, by go_num, by go_num, by omega, by omega, Nat.le_refl _, Lib.hid ?_, Lib.hid (by rw [List.length_set]; exact Hl.out), Lib.hid ?_, Lib.hid ?_, ?_, ?_⟩
            · rw [Hstep.out, Hpx.out, if_neg (by simp), List.length_append, ← Hi.out]; rfl
            · have hid : i < dk.length := by have := Hl.out; omega
              rw [Hstep.out, Hpx.out, if_neg (by simp), ← Ht.out, List.take_add_one, List.getElem?_set_self hid, Option.toList_some, List.take_set_of_le (Nat.le_refl i)]
            · rw [List.drop_set_of_lt (by omega), ← List.drop_drop, Hd.out, List.drop_drop]
            · have h := Hseg.out.1
              rw [Int.toNat_natCast, show kI.sz = 1 from rfl, Nat.mul_one, Nat.add_zero] at h
              exact Lib.hid h
            · have h := Hseg.out.2
              rw [Int.toNat_natCast, show kI.sz = 1 from rfl, Nat.mul_one, Nat.add_zero] at h
              have h3 : w.grownBy (w2.setCells gb i [.int .i64 x]) (some gb) := ⟨h.os.trans HG2.out.os, h.tape.trans HG2.out.tape, h.output.trans HG2.out.output, Nat.le_trans HG2.out.size h.size, fun k hk hne => (h.block k (Nat.lt_of_lt_of_le hk HG2.out.size) hne).trans (HG2.out.block k hk hne)⟩
              exact Lib.hid h3
      · obtain rfl : j = n := by omega
        have hlti : ¬ (j : Int) < (j : Int) := by omega
        have hid : i ≤ dk.length := by have := Hl.out; omega
        have hfin : (l.take j).filter (fun x => !p x) = l.filter (fun x => !p x) := by rw [List.take_of_length_le (by have := Hn.out; omega)]
        have Hfin := Lib.hid hfin
        obtain ⟨vs, hvs⟩ : ∃ vs, (Builtin.zeroCells #[Value.int .i64 0] (j - i)).toList = vs := ⟨_, rfl⟩
        have hcl : ∀ ty, (Builtin.clear_ #[22] ty #[.slice (some ⟨gb, i, none⟩) (j - i) (cap - i)]).run Try.prog wr = .ok (.tuple #[]) (wr.setCells gb i vs) := fun ty => by
          rw [← hvs]
          refine run_clear_row wr 22 3 ty _ _ Try.underlying22 zeroI rfl (by decide +kernel) gb i (j - i) (cap - i) (by omega) (fun t ht => ?_) (fun t ht => ?_)
          · have ht4 : t < (j - i) * 1 := ht
            obtain ⟨c, hc1, hM, hcc, hfr⟩ := Kd.R_elem HD.out 0 ((i + t : Nat) : Int) (by omega) (by omega)
            rw [Int.toNat_natCast] at hcc hM
            obtain rfl : c = [.int .i64 _] := hM
            have := hcc 0 _ rfl
            rw [show (i + t) * kI.sz + 0 = i + t from by show (i + t) * 1 + 0 = _; omega] at this
            rw [this]; rfl
          · have ht4 : t < (j - i) * 1 := ht
            obtain ⟨c, hc1, hM, hcc, hfr⟩ := Kd.R_elem HD.out 0 ((i + t : Nat) : Int) (by omega) (by omega)
            have := hfr 0
            rw [Int.toNat_natCast, show (i + t) * kI.sz + 0 = i + t from by show (i + t) * 1 + 0 = _; omega] at this
            exact this
        have Hp := Lib.hid (Past.R_past vs i wr (Kd.R_take HD.out hid) (by rw [List.length_take, Nat.min_eq_left hid]; show i * 1 ≤ i; omega))
        clear hvs hid
        go_wp2
        go_ret
        have h := Hp.out
        rw [Ht.out, Hfin.out] at h
        have hi := Hi.out
        rw [Hfin.out] at hi
        rw [← hi]
        exact ⟨rfl, h.1, ⟨h.2.os.trans HG.out.os, h.2.tape.trans HG.out.tape, h.2.output.trans HG.out.output, Nat.le_trans HG.out.size h.2.size, fun k hk hne => (h.2.block k (Nat.lt_of_lt_of_le hk HG.out.size) hne).trans (HG.out.block k hk hne)⟩⟩
end Bt
end Go.Proofs.Ytiinmagnpkfbbaa
