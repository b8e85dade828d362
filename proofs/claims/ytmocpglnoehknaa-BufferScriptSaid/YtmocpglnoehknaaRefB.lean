/- thermographref11.Buffer.Done, Drop: what they leave. -/
import Derived.Test.YtmocpglnoehknaaTakeWalk
import Derived.Test.YtmocpglnoehknaaQR0
namespace Go.Proofs.Ytmocpglnoehknaa
set_option linter.unusedVariables false
set_option linter.unusedSimpArgs false
open Go.RowKit Go.Proofs.YtmocpglnoehknaaW.PrintWords Go.Proofs.YtmocpglnoehknaaW.PrintLast Go.Proofs.YtmocpglnoehknaaW.PrintMore Go.Proofs.Ytmocpglnoehknaa.QT Go.Proofs.Ytmocpglnoehknaa.QR
namespace Rf
open Buf (Fr)
abbrev One := S54
/-- Block g is a Buffer of the document: its points L, its version. -/
structure Is (w : World) (g : Nat) (L : List One) (n : Int) : Prop where
  blk : ∃ v, w.heap[g]? = some (.cells #[v, .int .i64 n] 45 (0, 0)) ∧ Kd.R k54 54 w 0 (fun _ => True) v L
theorem Is.below {w w' : World} {g : Nat} {L : List One} {n : Int} (h : Is w g L n) (hb : Below w.heap.size w w') : Is w' g L n := by
  obtain ⟨v, h1, h2⟩ := h.blk
  exact ⟨v, blk_below h1 hb, Kd.R_below h2 hb⟩
theorem Is.lt {w : World} {g : Nat} {L : List One} {n : Int} (h : Is w g L n) : g < w.heap.size := by
  obtain ⟨v, h1, h2⟩ := h.blk
  exact blk_lt h1
def keepO (blk ver : Int) (o : One) : Bool := !(o.f0 == blk) || decide (o.f3 > ver)
theorem rd54 {L : List One} {i : Nat} (h : i < L.length) : rd_T54 L (i : Int) = L[i] := by unfold rd_T54; rw [Int.toNat_natCast, List.getD_eq_getElem?_getD, List.getElem?_eq_getElem h]; rfl
theorem info54 : (Try.prog.info? 54).map (fun i => (i.zero, i.size, i.bytes)) = some (some (.agg #[.int .i64 0, .string ⟨#[]⟩, .int .i64 0, .int .u64 0, .int .u64 0, .int .i64 0]), 6, 56) := by kernel_rfl
set_option maxHeartbeats 1000000 in
set_option maxRecDepth 100000 in
theorem done_calls (w : World) (g : Nat) (L : List One) (n : Int) (h : Is w g L n) (hl : L.length ≤ 1000000) (blk ver : Int) :
    Calls Try.prog 22 #[.pointer (some ⟨g, 0, none⟩), .int .i64 blk, .int .i64 ver] w fun e w' => e = .returned (.int .i64 ((L.length : Int) - ((L.filter (keepO blk ver)).length : Nat))) ∧ Is w' g (L.filter (keepO blk ver)) n ∧ Fr g g w w' := by
  obtain ⟨v, hv, hR⟩ := h.blk
  obtain ⟨A, c, rfl⟩ := Kd.R_slice hR
  have HV := Lib.hid hv
  have HR := Lib.hid hR
  have HG := Lib.hid (show g < w.heap.size from blk_lt hv)
  clear h hv hR
  go_enter Try.func22, Try.ntmps22
  go_wp2_with ((with_reducible refine gate_dst (N := 10) rfl ?_); refine Kd.R_lit k54 (w0 := w) w.heap.size 54 ?hg (N := 10) ?hd (xs := ([] : List S54)) (inner := []) (ok := fun k => k ≠ g) (okp := fun k => k ≠ g) ?hr ?hp (fun _ hk => hk) ?hf (Below.refl _ _) (Nat.le_refl _) (by simp) ?_; (case hd => rfl); (case hg => rfl); (case hr => first | (go_simp; done) | (go_simp; rfl)); (case hp => exact (Reps.none _ _)); (case hf => have := HG.out; omega); intro v3 w3 hR3 hB3 hg3 hn3; have HR3 := Lib.hid hR3; have HB3 := Lib.hid hB3; clear hR3 hB3 hg3 hn3)
  go_loopg [7, 8] L.length (fun gn v7 v8 wr => ∃ (i : Nat), v8 = .int .i64 (i : Int) ∧ Aside0 (gn = L.length - i) ∧ Aside0 (i ≤ L.length) ∧ Aside0 (Kd.R k54 54 wr w.heap.size (fun k => k ≠ g) v7 ((L.take i).filter (keepO blk ver))) ∧ Aside0 (Below w.heap.size w wr))
  case atStart => exact ⟨0, rfl, ⟨rfl⟩, ⟨Nat.zero_le _⟩, ⟨HR3.out⟩, ⟨HB3.out⟩⟩
  case round =>
    clear HR3 HB3
    obtain ⟨i, rfl, HN, HI, HO, HB⟩ := hrel
    have hvr := blk_below HV.out HB.out
    have c0 : wr.cell? ⟨g, 0, none⟩ = some (.slice A L.length c) := (blk_cell hvr 0).trans rfl
    by_cases hi : i < L.length
    · have hi0 : (i : Int) < (L.length : Int) := by omega
      have hwr : wrap64 ((i : Int) + 1) = (i : Int) + 1 := by unfold wrap64; omega
      have hC := (Kd.R_reads' (Kd.R_below HR.out HB.out)).2.2
      obtain ⟨ad, ead, q0, q1, q2, q3, q4, q5⟩ := at_T54 hC (i : Int) (by omega) hi0
      cases ead
      have hto : ((i : Int)).toNat = i := Int.toNat_natCast i
      rw [hto] at q0 q1 q2 q3 q4 q5
      obtain ⟨o, ho⟩ : ∃ o, rd_T54 L (i : Int) = o := ⟨_, rfl⟩
      rw [ho] at q0 q1 q2 q3 q4 q5
      have htk : L.take (i + 1) = L.take i ++ [o] := by rw [← ho, rd54 hi]; exact List.take_succ_eq_append_getElem hi
      have HTK := Lib.hid htk
      have hfl : ((L.take i).filter (keepO blk ver)).length ≤ 1000000 := by
        have h1 := List.length_filter_le (keepO blk ver) (L.take i)
        rw [List.length_take] at h1
        omega
      have HFL := Lib.hid hfl
      clear hvr hC ho htk hto hfl
      by_cases hb : o.f0 = blk
      · subst hb
        have hb1 : (o.f0 != o.f0) = false := by simp
        by_cases hv : o.f3 > ver
        · have hk : keepO o.f0 ver o = true := by unfold keepO; rw [decide_eq_true hv, Bool.or_true]
          have hv1 : decide (ver < o.f3) = true := decide_eq_true hv
          have HK := Lib.hid hk
          clear hk
          go_wp2_with (at_builtin; refine (Kd.R_append k54 (w0 := w) w.heap.size rfl (.tmp 42) (.tmp 50) 43 54 (.agg #[.int .i64 0, .string ⟨#[]⟩, .int .i64 0, .int .u64 0, .int .u64 0, .int .i64 0]) 56 rfl Try.underlying43 info54 rfl (by decide) (by omega) u7 ((L.take i).filter (keepO o.f0 ver)) o [.int .i64 o.f0, .string o.f1, .int .i64 o.f2.f0, .int .u64 o.f2.f1, .int .u64 o.f2.f2, .int .i64 o.f3] (fun k => k ≠ g) (fun _ => False) rfl ?aX ?aP (fun _ hk => hk.elim) ?aF ?aO ?aB ?aS ?aL ?_); (case aX => first | rfl | (go_simp; done) | (simp; done)); (case aP => exact k54_mkM _ _ _ o); (case aF => exact (fun k hk => by have := HB.out.size; have := HG.out; omega)); (case aO => exact HO.out); (case aB => exact HB.out); (case aS => exact HB.out.size); (case aL => have := HFL.out; omega); intro v1 w10 hR2 hB2 hg2 hat2; have HR2 := Lib.hid hR2; have HB2 := Lib.hid hB2; clear hR2 hB2 hg2 hat2)
          go_roundg (L.length - (i + 1))
          case measure => have := HN.out; omega
          case rel => exact ⟨i + 1, by first | (simp [hwr]; done) | (simp; done), ⟨rfl⟩, ⟨hi⟩, ⟨by rw [HTK.out, List.filter_append, List.filter_cons, if_pos HK.out]; exact HR2.out⟩, ⟨HB2.out⟩⟩
        · have hk : keepO o.f0 ver o = false := by unfold keepO; rw [decide_eq_false hv]; simp
          have hv1 : decide (ver < o.f3) = false := decide_eq_false hv
          have HK := Lib.hid hk
          clear hk
          go_wp2_with fail
          go_roundg (L.length - (i + 1))
          case measure => have := HN.out; omega
          case rel => exact ⟨i + 1, by first | (simp [hwr]; done) | (simp; done), ⟨rfl⟩, ⟨hi⟩, ⟨by rw [HTK.out, List.filter_append, List.filter_cons, if_neg (by rw [HK.out]; simp), List.filter_nil, List.append_nil]; exact HO.out⟩, HB⟩
      · have hb1 : (o.f0 != blk) = true := by simpa using hb
        have hk : keepO blk ver o = true := by unfold keepO; simp [hb]
        have HK := Lib.hid hk
        clear hk
        go_wp2_with (at_builtin; refine (Kd.R_append k54 (w0 := w) w.heap.size rfl (.tmp 42) (.tmp 50) 43 54 (.agg #[.int .i64 0, .string ⟨#[]⟩, .int .i64 0, .int .u64 0, .int .u64 0, .int .i64 0]) 56 rfl Try.underlying43 info54 rfl (by decide) (by omega) u7 ((L.take i).filter (keepO blk ver)) o [.int .i64 o.f0, .string o.f1, .int .i64 o.f2.f0, .int .u64 o.f2.f1, .int .u64 o.f2.f2, .int .i64 o.f3] (fun k => k ≠ g) (fun _ => False) rfl ?aX ?aP (fun _ hk => hk.elim) ?aF ?aO ?aB ?aS ?aL ?_); (case aX => first | rfl | (go_simp; done) | (simp; done)); (case aP => exact k54_mkM _ _ _ o); (case aF => exact (fun k hk => by have := HB.out.size; have := HG.out; omega)); (case aO => exact HO.out); (case aB => exact HB.out); (case aS => exact HB.out.size); (case aL => have := HFL.out; omega); intro v1 w10 hR2 hB2 hg2 hat2; have HR2 := Lib.hid hR2; have HB2 := Lib.hid hB2; clear hR2 hB2 hg2 hat2)
        go_roundg (L.length - (i + 1))
        case measure => have := HN.out; omega
        case rel => exact ⟨i + 1, by first | (simp [hwr]; done) | (simp; done), ⟨rfl⟩, ⟨hi⟩, ⟨by rw [HTK.out, List.filter_append, List.filter_cons, if_pos HK.out]; exact HR2.out⟩, ⟨HB2.out⟩⟩
    · have hge : ¬ (i : Int) < (L.length : Int) := by omega
      have hie : i = L.length := by have := HI.out; omega
      obtain ⟨A7, c7, rfl⟩ := Kd.R_slice HO.out
      have hO := HO.out
      rw [hie, List.take_length] at hO ⊢
      have hfl := List.length_filter_le (keepO blk ver) L
      obtain ⟨K, hK⟩ : ∃ K, K = L.filter (keepO blk ver) := ⟨_, rfl⟩
      rw [← hK] at hO hfl ⊢
      have HO2 := Lib.hid hO
      have HKK := Lib.hid hK
      have f0 : wr.frozen? ⟨g, 0, none⟩ = false := blk_frozen hvr 0
      have HVR := Lib.hid hvr
      clear hO hK hvr
      go_wp2
      go_ret
      rw [← HKK.out]
      refine ⟨rfl, ⟨_, blk_set HVR.out 0 _, Kd.R_lower (Kd.R_mono (Kd.R_far HO2.out (fun k hk => hk) _) (fun _ _ => trivial)) (Nat.zero_le _)⟩, ?_⟩
      exact ⟨HB.out.os, HB.out.tape, HB.out.output, by have := HB.out.size; rw [Buf.size_set]; exact this, fun j hj h1 _ => (Below.heap_setCell _ _ _ _ h1).trans (HB.out.block j hj)⟩
set_option maxHeartbeats 1000000 in
theorem drop_calls (w : World) (g : Nat) (L : List One) (n : Int) (h : Is w g L n) (hl : L.length ≤ 1000000) (blk : Int) :
    Calls Try.prog 24 #[.pointer (some ⟨g, 0, none⟩), .int .i64 blk] w fun e w' => e = .returned (.int .i64 ((L.length : Int) - ((L.filter (keepO blk n)).length : Nat))) ∧ Is w' g (L.filter (keepO blk n)) n ∧ Fr g g w w' := by
  have HC := Lib.hid (done_calls w g L n h hl blk n)
  obtain ⟨v, hv, _⟩ := h.blk
  have c1 : w.cell? ⟨g, 1, none⟩ = some (.int .i64 n) := (blk_cell hv 1).trans rfl
  clear h hv
  go_enter Try.func24, Try.ntmps24
  go_wp2_with fail
  with_reducible refine HC.out.mono ?_
  rintro e w1 ⟨rfl, hI, hF⟩
  have HR := Lib.hid (And.intro hI hF)
  clear hI hF c1
  go_wp2
  go_ret
  exact ⟨rfl, HR.out.1, HR.out.2⟩
end Rf
end Go.Proofs.Ytmocpglnoehknaa

/- thermographref11.Buffer.Write: what it makes of the points. -/
namespace Go.Proofs.Ytmocpglnoehknaa
set_option linter.unusedVariables false
set_option linter.unusedSimpArgs false
open Go.RowKit Go.Proofs.YtmocpglnoehknaaW.PrintWords Go.Proofs.YtmocpglnoehknaaW.PrintLast Go.Proofs.YtmocpglnoehknaaW.PrintMore Go.Proofs.Ytmocpglnoehknaa.QT Go.Proofs.Ytmocpglnoehknaa.QR
namespace Rf
open Buf (Fr)
def cellsOne (o : One) : Array Value := #[.int .i64 o.f0, .string o.f1, .int .i64 o.f2.f0, .int .u64 o.f2.f1, .int .u64 o.f2.f2, .int .i64 o.f3]
def hit (blk : Int) (idn : ByteArray) (p : S24) (o : One) : Bool := o.f0 == blk && (decide (o.f1 = idn) && o.f2.f0 == p.f0)
def wstep (blk : Int) (idn : ByteArray) (p : S24) (s : List One × One) (o : One) : List One × One := if hit blk idn p o = true then (s.1, if winsP p o.f2 = true then s.2 else o) else (s.1 ++ [o], s.2)
def wfold (blk : Int) (idn : ByteArray) (p : S24) (n1 : Int) (L : List One) : List One × One := L.foldl (wstep blk idn p) ([], ⟨blk, idn, p, n1⟩)
/-- What Write makes of the points. -/
def wrR (blk : Int) (idn : ByteArray) (p : S24) (n1 : Int) (L : List One) : List One := (wfold blk idn p n1 L).1 ++ [(wfold blk idn p n1 L).2]
theorem wfold_take {blk : Int} {idn : ByteArray} {p : S24} {n1 : Int} {L : List One} {i : Nat} (h : i < L.length) : wfold blk idn p n1 (L.take (i + 1)) = wstep blk idn p (wfold blk idn p n1 (L.take i)) L[i] := by
  unfold wfold
  rw [List.take_succ_eq_append_getElem h, List.foldl_append]
  rfl
theorem wfold_len (blk : Int) (idn : ByteArray) (p : S24) (n1 : Int) (L : List One) : (wfold blk idn p n1 L).1.length ≤ L.length := by
  unfold wfold
  have : ∀ (l : List One) (s : List One × One), (l.foldl (wstep blk idn p) s).1.length ≤ s.1.length + l.length := by
    intro l
    induction l with
    | nil => intro s; simp
    | cons o r ih =>
      intro s
      rw [List.foldl_cons]
      have h1 := ih (wstep blk idn p s o)
      have h2 : (wstep blk idn p s o).1.length ≤ s.1.length + 1 := by
        unfold wstep
        split <;> simp
      simp only [List.length_cons]
      omega
  simpa using this L ([], ⟨blk, idn, p, n1⟩)
structure WS (w wr : World) (g gp gx : Nat) (vL : Value) (L : List One) (n1 : Int) (blk : Int) (idn : ByteArray) (p : S24) (i : Nat) (v9 : Value) : Prop where
  i1 : i ≤ L.length
  hg : wr.heap[g]? = some (.cells #[vL, .int .i64 n1] 45 (0, 0))
  hp : wr.heap[gp]? = some (.cells #[.int .i64 p.f0, .int .u64 p.f1, .int .u64 p.f2] 24 (0, 0))
  hx : wr.heap[gx]? = some (.cells (cellsOne (wfold blk idn p n1 (L.take i)).2) 54 (0, 0))
  row : Kd.R k54 54 wr 0 (fun k => k < w.heap.size ∧ k ≠ g) vL L
  acc : Kd.R k54 54 wr w.heap.size (fun k => k ≠ gx ∧ k ≠ g) v9 (wfold blk idn p n1 (L.take i)).1
  fr : Fr g g w wr
theorem refWins (a b : S24) (w : World) : Calls Try.prog 12 #[.agg #[.int .i64 a.f0, .int .u64 a.f1, .int .u64 a.f2], .agg #[.int .i64 b.f0, .int .u64 b.f1, .int .u64 b.f2]] w fun e w' => e = .returned (.bool (winsP a b)) ∧ Below w.heap.size w w' :=
  thermographref06_Wins.calls _ _ _ _ _ _ _ w (Vw.rwins a b)
theorem set_os (w : World) (a : Addr) (v : Value) : (w.setCell a v).os = w.os := rfl
theorem set_tape (w : World) (a : Addr) (v : Value) : (w.setCell a v).tape = w.tape := rfl
theorem set_output (w : World) (a : Addr) (v : Value) : (w.setCell a v).output = w.output := rfl
def put6 (w : World) (gx : Nat) (b0 b1 b2 b3 b4 b5 : Value) : World := (((((w.setCell ⟨gx, 0, none⟩ b0).setCell ⟨gx, 1, none⟩ b1).setCell ⟨gx, 2, none⟩ b2).setCell ⟨gx, 3, none⟩ b3).setCell ⟨gx, 4, none⟩ b4).setCell ⟨gx, 5, none⟩ b5
theorem put6_blk {w : World} {gx : Nat} {a0 a1 a2 a3 a4 a5 b0 b1 b2 b3 b4 b5 : Value} {t : TypeId} (h : w.heap[gx]? = some (.cells #[a0, a1, a2, a3, a4, a5] t (0, 0))) : (put6 w gx b0 b1 b2 b3 b4 b5).heap[gx]? = some (.cells #[b0, b1, b2, b3, b4, b5] t (0, 0)) := by
  have h0 := blk_set h 0 b0
  have h1 := blk_set h0 1 b1
  have h2 := blk_set h1 2 b2
  have h3 := blk_set h2 3 b3
  have h4 := blk_set h3 4 b4
  have h5 := blk_set h4 5 b5
  unfold put6
  simpa using h5
theorem put6_other (w : World) (gx : Nat) (b0 b1 b2 b3 b4 b5 : Value) : (∀ k, k ≠ gx → (put6 w gx b0 b1 b2 b3 b4 b5).heap[k]? = w.heap[k]?) ∧ (put6 w gx b0 b1 b2 b3 b4 b5).heap.size = w.heap.size ∧ (put6 w gx b0 b1 b2 b3 b4 b5).os = w.os ∧ (put6 w gx b0 b1 b2 b3 b4 b5).tape = w.tape ∧ (put6 w gx b0 b1 b2 b3 b4 b5).output = w.output := by
  unfold put6
  refine ⟨fun k hk => ?_, by simp only [Buf.size_set], by simp only [set_os], by simp only [set_tape], by simp only [set_output]⟩
  exact (Below.heap_setCell _ _ _ _ hk).trans ((Below.heap_setCell _ _ _ _ hk).trans ((Below.heap_setCell _ _ _ _ hk).trans ((Below.heap_setCell _ _ _ _ hk).trans ((Below.heap_setCell _ _ _ _ hk).trans (Below.heap_setCell _ _ _ _ hk)))))
theorem R_empty {α : Type} {d : Kd α} {e : Nat} {w : World} {base gl : Nat} {ok : Nat → Prop} (h : w.heap[gl]? = some (.cells #[] e (0, 0))) (hb : base ≤ gl) (hok : ok gl) : d.R e w base ok (.slice (some ⟨gl, 0, none⟩) 0 0) [] :=
  ⟨fun k hk => by simp [Value.ownBlock] at hk; subst hk; exact hok, [], ⟨by simp, .inr ⟨gl, 0, #[], rfl, hb, h, Nat.le_refl _, Nat.zero_le _, by simp, by simp⟩⟩, Reps.none _ _⟩
theorem WS.alloc {w wr : World} {g gp gx : Nat} {vL : Value} {L : List One} {n1 : Int} {blk : Int} {idn : ByteArray} {p : S24} {i : Nat} {v9 : Value} (h : WS w wr g gp gx vL L n1 blk idn p i v9) {w' : World} (hb : Below wr.heap.size wr w') : WS w w' g gp gx vL L n1 blk idn p i v9 :=
  ⟨h.i1, blk_below h.hg hb, blk_below h.hp hb, blk_below h.hx hb, Kd.R_below h.row hb, Kd.R_below h.acc hb, h.fr.trans (Fr.of_below hb)⟩
set_option maxHeartbeats 2000000 in
set_option maxRecDepth 100000 in
theorem write_calls (w : World) (g : Nat) (L : List One) (n : Int) (h : Is w g L n) (hl : L.length ≤ 1000000) (h0 : 0 ≤ n) (hn : n ≤ 1000000) (blk : Int) (idn : ByteArray) (p : S24) :
    Calls Try.prog 17 #[.pointer (some ⟨g, 0, none⟩), .int .i64 blk, .string idn, .agg #[.int .i64 p.f0, .int .u64 p.f1, .int .u64 p.f2]] w fun e w' => e = .returned (.int .i64 (n + 1)) ∧ Is w' g (wrR blk idn p (n + 1) L) (n + 1) ∧ Fr g g w w' := by
  obtain ⟨v, hv, hR⟩ := h.blk
  obtain ⟨A, c, rfl⟩ := Kd.R_slice hR
  have HV := Lib.hid hv
  have HR := Lib.hid hR
  have HG := Lib.hid (show g < w.heap.size from blk_lt hv)
  have hwn : wrap64 (n + 1) = n + 1 := by unfold wrap64; omega
  clear h hv hR
  go_enter Try.func17, Try.ntmps17
  go_wp2_with ((with_reducible refine gate_dst (N := 7) rfl ?_); refine box_event rfl (N := 7) rfl (cs := #[.int .i64 p.f0, .int .u64 p.f1, .int .u64 p.f2]) (t := 24) ?hr ?_; (case hr => first | (go_simp; done) | (go_simp; rfl)); intro gp hgp w1 hbox hb1; have HB1 := Lib.hid (And.intro hgp (And.intro hbox hb1)); have hv1 := blk_below HV.out hb1; have c1 : w1.cell? ⟨g, 1, none⟩ = some (.int .i64 n) := (blk_cell hv1 1).trans rfl; have f1 : w1.frozen? ⟨g, 1, none⟩ = false := blk_frozen hv1 1; clear hgp hbox hb1 hv1)
  obtain ⟨X, hX⟩ : ∃ X : World, X = (w1.setCell ⟨g, 1, none⟩ (.int .i64 (n + 1))).alloc (.cells #[] 54) := ⟨_, rfl⟩
  obtain ⟨gl, hgl⟩ : ∃ gl, gl = w1.heap.size := ⟨_, rfl⟩
  obtain ⟨hgp, hbox, hb1⟩ := HB1.out
  have hv1 := blk_below HV.out hb1
  have hgne : g ≠ gp := by have := HG.out; omega
  have hXg : X.heap[g]? = some (.cells #[.slice A L.length c, .int .i64 (n + 1)] 45 (0, 0)) := by rw [hX]; exact blk_alloc (blk_set hv1 1 _) _
  have hXp : X.heap[gp]? = some (.cells #[.int .i64 p.f0, .int .u64 p.f1, .int .u64 p.f2] 24 (0, 0)) := by
    rw [hX]
    exact blk_alloc ((Below.heap_setCell _ _ _ _ (fun e => hgne e.symm)).trans hbox) _
  have hXl : X.heap[gl]? = some (.cells #[] 54 (0, 0)) := by
    rw [hX, hgl]
    have := blk_new (w1.setCell ⟨g, 1, none⟩ (.int .i64 (n + 1))) (.cells #[] 54)
    rw [Buf.size_set] at this
    exact this
  have hXs : X.heap.size = w1.heap.size + 1 := by rw [hX, Buf.size_alloc, Buf.size_set]
  have hXf : Fr g g w X := by
    refine ⟨by rw [hX]; exact hb1.os, by rw [hX]; exact hb1.tape, by rw [hX]; exact hb1.output, by have := hb1.size; omega, fun i hi h1 _ => ?_⟩
    have hi1 : i < w1.heap.size := by have := hb1.size; omega
    rw [hX, Below.heap_alloc _ _ _ (by rw [Buf.size_set]; exact hi1)]
    exact (Below.heap_setCell _ _ _ _ h1).trans (hb1.block i hi)
  have hRk : Kd.R k54 54 w 0 (fun k => k < w.heap.size ∧ k ≠ g) (.slice A L.length c) L := by
    refine ⟨fun k hk => ⟨Kd.R_lt HR.out k hk, fun e => ?_⟩, ?_⟩
    · have := Kd.R_ne HR.out HV.out (by decide)
      rw [hk, e] at this
      exact this rfl
    · exact HR.out.2.imp_ (fun q cs hq => by obtain rfl := k54_openM hq; exact k54_mkM _ _ _ q)
  have hXr : Kd.R k54 54 X 0 (fun k => k < w.heap.size ∧ k ≠ g) (.slice A L.length c) L := Kd.R_step hRk (fun k ho hk => hXf.block k hk ho.2 ho.2)
  rw [← hX, ← hgl]
  have HX := Lib.hid (And.intro hXg (And.intro hXp (And.intro hXl (And.intro hXr (And.intro hXf (And.intro hXs (And.intro hgl (And.intro hgp hb1.size))))))))
  have c0 : X.cell? ⟨g, 0, none⟩ = some (.slice A L.length c) := (blk_cell hXg 0).trans rfl
  have c2 : X.cell? ⟨g, 1, none⟩ = some (.int .i64 (n + 1)) := (blk_cell hXg 1).trans rfl
  have p0 : X.cell? ⟨gp, 0, none⟩ = some (.int .i64 p.f0) := (blk_cell hXp 0).trans rfl
  have p1 : X.cell? ⟨gp, 1, none⟩ = some (.int .u64 p.f1) := (blk_cell hXp 1).trans rfl
  have p2 : X.cell? ⟨gp, 2, none⟩ = some (.int .u64 p.f2) := (blk_cell hXp 2).trans rfl
  have lg : g < X.heap.size := blk_lt hXg
  have lp : gp < X.heap.size := blk_lt hXp
  clear hX hgl hgp hbox hb1 hv1 hgne hXg hXp hXl hXs hXf hRk hXr HB1 c1 f1
  go_region
  all_goals
    go_wp2_with fail
    obtain ⟨hXg, hXp, hXl, hXr, hXf, hXs, hgl, hgp, hb1⟩ := HX.out
    obtain ⟨gx, hgx⟩ : ∃ gx, gx = X.heap.size := ⟨_, rfl⟩
    obtain ⟨Z, hZ⟩ : ∃ Z : World, Z = (X.alloc (.cells #[.int .i64 blk, .string idn, .int .i64 p.f0, .int .u64 p.f1, .int .u64 p.f2, .int .i64 (n + 1)] 54)).drew := ⟨_, rfl⟩
    have hbZ : Below X.heap.size X Z := by rw [hZ]; exact below_drew (below_alloc (Below.refl _ _) _)
    have hZx : Z.heap[gx]? = some (.cells (cellsOne ⟨blk, idn, p, n + 1⟩) 54 (0, 0)) := by rw [hZ, hgx]; exact blk_new _ _
    have HW0 := Lib.hid (show WS w Z g gp gx (.slice A L.length c) L (n + 1) blk idn p 0 (.slice (some ⟨gl, 0, none⟩) 0 0) from
      ⟨Nat.zero_le _, blk_below hXg hbZ, blk_below hXp hbZ, hZx, Kd.R_below hXr hbZ, R_empty (blk_below hXl hbZ) (by omega) (by have := HG.out; constructor <;> omega), hXf.trans (Fr.of_below hbZ)⟩)
    have HGX := Lib.hid (show w.heap.size ≤ gx ∧ gx ≠ g ∧ gx ≠ gp ∧ g ≠ gp by have := HG.out; omega)
    rw [← hZ, ← hgx]
    clear hXg hXp hXl hXr hXf hXs hgl hgp hb1 hgx hZ hbZ hZx HX c0 c2 p0 p1 p2 lg lp
    go_loopg [9, 11] L.length (fun gn v9 v11 wr => ∃ (i : Nat), v11 = .int .i64 (i : Int) ∧ Aside0 (gn = L.length - i) ∧ Aside0 (WS w wr g gp gx (.slice A L.length c) L (n + 1) blk idn p i v9))
    case atStart => exact ⟨0, rfl, ⟨rfl⟩, ⟨HW0.out⟩⟩
    case round =>
      clear HW0
      obtain ⟨i, rfl, HN, HS⟩ := hrel
      have hs := HS.out
      have c0 : wr.cell? ⟨g, 0, none⟩ = some (.slice A L.length c) := (blk_cell hs.hg 0).trans rfl
      have c2 : wr.cell? ⟨g, 1, none⟩ = some (.int .i64 (n + 1)) := (blk_cell hs.hg 1).trans rfl
      by_cases hi : i < L.length
      · have hi0 : (i : Int) < (L.length : Int) := by omega
        have hwr : wrap64 ((i : Int) + 1) = (i : Int) + 1 := by unfold wrap64; omega
        have hC := (Kd.R_reads' hs.row).2.2
        obtain ⟨ad, ead, q0, q1, q2, q3, q4, q5⟩ := at_T54 hC (i : Int) (by omega) hi0
        cases ead
        have hto : ((i : Int)).toNat = i := Int.toNat_natCast i
        rw [hto] at q0 q1 q2 q3 q4 q5
        obtain ⟨o, ho⟩ : ∃ o, rd_T54 L (i : Int) = o := ⟨_, rfl⟩
        rw [ho] at q0 q1 q2 q3 q4 q5
        have htk := wfold_take (blk := blk) (idn := idn) (p := p) (n1 := n + 1) hi
        rw [show L[i] = o from by rw [← ho, rd54 hi]] at htk
        have HTK := Lib.hid htk
        have p0 : wr.cell? ⟨gp, 0, none⟩ = some (.int .i64 p.f0) := (blk_cell hs.hp 0).trans rfl
        have p1 : wr.cell? ⟨gp, 1, none⟩ = some (.int .u64 p.f1) := (blk_cell hs.hp 1).trans rfl
        have p2 : wr.cell? ⟨gp, 2, none⟩ = some (.int .u64 p.f2) := (blk_cell hs.hp 2).trans rfl
        have lp : gp < wr.heap.size := blk_lt hs.hp
        have HAL := Lib.hid (hs.alloc (below_alloc (Below.refl _ _) (.cells #[.int .i64 o.f0, .string o.f1, .int .i64 o.f2.f0, .int .u64 o.f2.f1, .int .u64 o.f2.f2, .int .i64 o.f3] 54)))
        have HAN := Lib.hid (blk_new wr (.cells #[.int .i64 o.f0, .string o.f1, .int .i64 o.f2.f0, .int .u64 o.f2.f1, .int .u64 o.f2.f2, .int .i64 o.f3] 54))
        clear hs hC ho htk hto HS
        cases hh : hit blk idn p o with
        | false =>
          have HH := Lib.hid hh
          have hcond : (o.f0 == blk) = false ∨ ((o.f0 == blk) = true ∧ (o.f1.toList == idn.toList) = false) ∨ ((o.f0 == blk) = true ∧ (o.f1.toList == idn.toList) = true ∧ (o.f2.f0 == p.f0) = false) := by
            unfold hit at hh
            cases h1 : (o.f0 == blk) with
            | false => exact .inl rfl
            | true =>
              right
              rw [h1, Bool.true_and] at hh
              by_cases h2 : o.f1 = idn
              · right
                refine ⟨rfl, by rw [h2]; simp, ?_⟩
                rw [decide_eq_true h2, Bool.true_and] at hh
                exact hh
              · exact .inl ⟨rfl, Buf.bytes_ne h2⟩
          have hfl : (wfold blk idn p (n + 1) (L.take i)).1.length ≤ 1000000 := by
            have h1 := wfold_len blk idn p (n + 1) (L.take i)
            rw [List.length_take] at h1
            omega
          have HFL := Lib.hid hfl
          have hst : wfold blk idn p (n + 1) (L.take (i + 1)) = ((wfold blk idn p (n + 1) (L.take i)).1 ++ [o], (wfold blk idn p (n + 1) (L.take i)).2) := by rw [HTK.out]; unfold wstep; rw [if_neg (by rw [hh]; simp)]
          have HST := Lib.hid hst
          clear hh hst hfl
          rcases hcond with hq | ⟨hq, hq2⟩ | ⟨hq, hq2, hq3⟩
          all_goals
            go_wp2_with (at_builtin; refine (Kd.R_append k54 (w0 := wr.alloc (.cells #[.int .i64 o.f0, .string o.f1, .int .i64 o.f2.f0, .int .u64 o.f2.f1, .int .u64 o.f2.f2, .int .i64 o.f3] 54)) w.heap.size rfl (.tmp 69) (.tmp 71) 43 54 (.agg #[.int .i64 0, .string ⟨#[]⟩, .int .i64 0, .int .u64 0, .int .u64 0, .int .i64 0]) 56 rfl Try.underlying43 info54 rfl (by decide) (by omega) u9 (wfold blk idn p (n + 1) (L.take i)).1 o [.int .i64 o.f0, .string o.f1, .int .i64 o.f2.f0, .int .u64 o.f2.f1, .int .u64 o.f2.f2, .int .i64 o.f3] (fun k => k ≠ gx ∧ k ≠ g) (fun _ => False) rfl ?aX ?aP (fun _ hk => hk.elim) ?aF ?aO ?aB ?aS ?aL ?_); (case aX => first | rfl | (go_simp; done) | (simp; done)); (case aP => exact k54_mkM _ _ _ o); (case aF => exact (fun k hk => by have h1 := blk_lt HAL.out.hx; have h2 := blk_lt HAL.out.hg; exact ⟨by omega, by omega⟩)); (case aO => exact HAL.out.acc); (case aB => exact Below.refl _ _); (case aS => exact HAL.out.fr.size); (case aL => have := HFL.out; omega); intro v1 w10 hR2 hB2 hg2 hat2; have H10 := Lib.hid (And.intro hR2 (And.intro hB2 hg2)); clear hR2 hB2 hg2 hat2)
            go_roundg (L.length - (i + 1))
            case measure => have := HN.out; omega
            case rel =>
              have hs := HAL.out
              obtain ⟨hR2, hB2, hg2⟩ := H10.out
              refine ⟨i + 1, by first | (simp [hwr]; done) | (simp; done), ⟨rfl⟩, ⟨⟨hi, blk_grown hs.hg hg2 (fun e => (hs.acc.1 g e.symm).2 rfl), blk_grown hs.hp hg2 (Kd.R_ne hs.acc hs.hp (by decide)), ?_, ?_, by rw [HST.out]; exact hR2, ?_⟩⟩⟩
              · rw [HST.out]; exact blk_grown hs.hx hg2 (fun e => (hs.acc.1 gx e.symm).1 rfl)
              · exact Kd.R_grown hs.row hg2 (fun k hk e => by have := Kd.R_base hs.acc k e.symm; omega)
              · exact ⟨hB2.os.trans hs.fr.os, hB2.tape.trans hs.fr.tape, hB2.output.trans hs.fr.output, Nat.le_trans hs.fr.size hB2.size, fun j hj h1 h2 => (hB2.block j hj).trans (hs.fr.block j hj h1 h2)⟩
        | true =>
          have HH := Lib.hid hh
          unfold hit at hh
          simp only [Bool.and_eq_true, decide_eq_true_eq, beq_iff_eq] at hh
          obtain ⟨hh1, hh2, hh3⟩ := hh
          obtain ⟨of0, of1, ⟨ot, ov, os⟩, ow⟩ := o
          simp only at hh1 hh2 hh3 q0 q1 q2 q3 q4 q5 HAL HAN
          subst hh1 hh2 hh3
          have hk1 : (of1.toList == of1.toList) = true := by simp
          have HWN := Lib.hid (fun w => refWins p ⟨p.f0, ov, os⟩ w)
          simp only at HWN
          go_wp2_with fail
          with_reducible refine (HWN.out _).mono ?_
          rintro e w5 ⟨rfl, hb5⟩
          have HS5 := Lib.hid (HAL.out.alloc hb5)
          have HO5 := Lib.hid (blk_below HAN.out hb5)
          clear hb5 HAL HAN HWN c0 c2 p0 p1 p2 lp q0 q1 q2 q3 q4 q5
          obtain ⟨rw_, hrw⟩ : ∃ r, winsP p ⟨p.f0, ov, os⟩ = r := ⟨_, rfl⟩
          have HRW := Lib.hid hrw
          rw [hrw]
          clear hrw
          cases rw_ with
          | true =>
            go_wp2_with fail
            go_roundg (L.length - (i + 1))
            case measure => have := HN.out; omega
            case rel =>
              have hs5 := HS5.out
              have hst : wfold of0 of1 p (n + 1) (L.take (i + 1)) = wfold of0 of1 p (n + 1) (L.take i) := by rw [HTK.out]; unfold wstep; rw [if_pos HH.out, if_pos HRW.out]
              exact ⟨i + 1, by first | (simp [hwr]; done) | (simp; done), ⟨rfl⟩, ⟨⟨hi, hs5.hg, hs5.hp, by rw [hst]; exact hs5.hx, hs5.row, by rw [hst]; exact hs5.acc, hs5.fr⟩⟩⟩
          | false =>
            have o0 : w5.cell? ⟨wr.heap.size, 0, none⟩ = some (.int .i64 of0) := (blk_cell HO5.out 0).trans rfl
            have o1 : w5.cell? ⟨wr.heap.size, 1, none⟩ = some (.string of1) := (blk_cell HO5.out 1).trans rfl
            have o2 : w5.cell? ⟨wr.heap.size, 2, none⟩ = some (.int .i64 p.f0) := (blk_cell HO5.out 2).trans rfl
            have o3 : w5.cell? ⟨wr.heap.size, 3, none⟩ = some (.int .u64 ov) := (blk_cell HO5.out 3).trans rfl
            have o4 : w5.cell? ⟨wr.heap.size, 4, none⟩ = some (.int .u64 os) := (blk_cell HO5.out 4).trans rfl
            have o5 : w5.cell? ⟨wr.heap.size, 5, none⟩ = some (.int .i64 ow) := (blk_cell HO5.out 5).trans rfl
            have f0 := blk_frozen HS5.out.hx 0
            have f1 := blk_frozen HS5.out.hx 1
            have f2 := blk_frozen HS5.out.hx 2
            have f3 := blk_frozen HS5.out.hx 3
            have f4 := blk_frozen HS5.out.hx 4
            have f5 := blk_frozen HS5.out.hx 5
            obtain ⟨xx, hxx⟩ : ∃ xx, (wfold of0 of1 p (n + 1) (L.take i)).2 = xx := ⟨_, rfl⟩
            have hx5 := HS5.out.hx
            rw [hxx] at hx5
            have x0 : w5.cell? ⟨gx, 0, none⟩ = some (.int .i64 xx.f0) := (blk_cell hx5 0).trans rfl
            have x1 : w5.cell? ⟨gx, 1, none⟩ = some (.string xx.f1) := (blk_cell hx5 1).trans rfl
            have x2 : w5.cell? ⟨gx, 2, none⟩ = some (.int .i64 xx.f2.f0) := (blk_cell hx5 2).trans rfl
            have x3 : w5.cell? ⟨gx, 3, none⟩ = some (.int .u64 xx.f2.f1) := (blk_cell hx5 3).trans rfl
            have x4 : w5.cell? ⟨gx, 4, none⟩ = some (.int .u64 xx.f2.f2) := (blk_cell hx5 4).trans rfl
            have x5 : w5.cell? ⟨gx, 5, none⟩ = some (.int .i64 xx.f3) := (blk_cell hx5 5).trans rfl
            clear hx5
            go_wp2_with fail
            obtain ⟨Y, hY⟩ : ∃ Y : World, Y = put6 w5 gx (.int .i64 of0) (.string of1) (.int .i64 p.f0) (.int .u64 ov) (.int .u64 os) (.int .i64 ow) := ⟨_, rfl⟩
            have hY2 := hY
            unfold put6 at hY2
            rw [← hY2]
            have hpo := put6_other w5 gx (.int .i64 of0) (.string of1) (.int .i64 p.f0) (.int .u64 ov) (.int .u64 os) (.int .i64 ow)
            rw [← hY] at hpo
            obtain ⟨hblk, hYs, hYo⟩ := hpo
            have hYx : Y.heap[gx]? = some (.cells (cellsOne ⟨of0, of1, ⟨p.f0, ov, os⟩, ow⟩) 54 (0, 0)) := by
              rw [hY]
              exact put6_blk HS5.out.hx
            have HY := Lib.hid (And.intro hblk (And.intro hYx (And.intro hYs hYo)))
            clear hY hY2 hblk hYx hYs hYo f0 f1 f2 f3 f4 f5 x0 x1 x2 x3 x4 x5 o0 o1 o2 o3 o4 o5
            go_wp2_with fail
            go_roundg (L.length - (i + 1))
            case measure => have := HN.out; omega
            case rel =>
              have hs5 := HS5.out
              obtain ⟨hblk, hYx, hYs, hYo⟩ := HY.out
              have hgx := HGX.out
              have hst : wfold of0 of1 p (n + 1) (L.take (i + 1)) = ((wfold of0 of1 p (n + 1) (L.take i)).1, ⟨of0, of1, ⟨p.f0, ov, os⟩, ow⟩) := by rw [HTK.out]; unfold wstep; rw [if_pos HH.out, if_neg (by rw [HRW.out]; simp)]
              exact ⟨i + 1, by first | (simp [hwr]; done) | (simp; done), ⟨rfl⟩, ⟨⟨hi, (hblk g hgx.2.1.symm).trans hs5.hg, (hblk gp hgx.2.2.1.symm).trans hs5.hp, by rw [hst]; exact hYx, Kd.R_step hs5.row (fun k ho hk => hblk k (by omega)), by rw [hst]; exact Kd.R_step hs5.acc (fun k ho hk => hblk k ho.1),
                ⟨hYo.1.trans hs5.fr.os, hYo.2.1.trans hs5.fr.tape, hYo.2.2.trans hs5.fr.output, by have := hs5.fr.size; omega, fun j hj h1 h2 => (hblk j (by omega)).trans (hs5.fr.block j hj h1 h2)⟩⟩⟩⟩
      · have hge : ¬ (i : Int) < (L.length : Int) := by omega
        have hie : i = L.length := by have := hs.i1; omega
        obtain ⟨FX, hFX⟩ : ∃ F, F = wfold blk idn p (n + 1) L := ⟨_, rfl⟩
        have hfl := wfold_len blk idn p (n + 1) L
        rw [← hFX] at hfl
        have hS' : FX.1.length ≤ 1000000 := by omega
        have hxx : wr.heap[gx]? = some (.cells (cellsOne FX.2) 54 (0, 0)) := by have := hs.hx; rw [hie, List.take_length, ← hFX] at this; exact this
        have hac : Kd.R k54 54 wr w.heap.size (fun k => k ≠ gx ∧ k ≠ g) u9 FX.1 := by have := hs.acc; rw [hie, List.take_length, ← hFX] at this; exact this
        obtain ⟨acc, xx⟩ := FX
        have x0 : wr.cell? ⟨gx, 0, none⟩ = some (.int .i64 xx.f0) := (blk_cell hxx 0).trans rfl
        have x1 : wr.cell? ⟨gx, 1, none⟩ = some (.string xx.f1) := (blk_cell hxx 1).trans rfl
        have x2 : wr.cell? ⟨gx, 2, none⟩ = some (.int .i64 xx.f2.f0) := (blk_cell hxx 2).trans rfl
        have x3 : wr.cell? ⟨gx, 3, none⟩ = some (.int .u64 xx.f2.f1) := (blk_cell hxx 3).trans rfl
        have x4 : wr.cell? ⟨gx, 4, none⟩ = some (.int .u64 xx.f2.f2) := (blk_cell hxx 4).trans rfl
        have x5 : wr.cell? ⟨gx, 5, none⟩ = some (.int .i64 xx.f3) := (blk_cell hxx 5).trans rfl
        have HE := Lib.hid (And.intro hs.hg (And.intro hac (And.intro hs.fr (And.intro hS' hFX))))
        clear hs HS hxx hac hfl hS' hFX
        go_wp2_with (at_builtin; refine (Kd.R_append k54 (w0 := wr) w.heap.size rfl (.tmp 74) (.tmp 76) 43 54 (.agg #[.int .i64 0, .string ⟨#[]⟩, .int .i64 0, .int .u64 0, .int .u64 0, .int .i64 0]) 56 rfl Try.underlying43 info54 rfl (by decide) (by omega) u9 acc xx [.int .i64 xx.f0, .string xx.f1, .int .i64 xx.f2.f0, .int .u64 xx.f2.f1, .int .u64 xx.f2.f2, .int .i64 xx.f3] (fun k => k ≠ g) (fun _ => False) rfl ?aX ?aP (fun _ hk => hk.elim) ?aF ?aO ?aB ?aS ?aL ?_); (case aX => first | rfl | (go_simp; done) | (simp; done)); (case aP => exact k54_mkM _ _ _ xx); (case aF => exact (fun k hk => by have h2 := blk_lt HE.out.1; omega)); (case aO => exact Kd.R_mono HE.out.2.1 (fun k hk => hk.2)); (case aB => exact Below.refl _ _); (case aS => exact HE.out.2.2.1.size); (case aL => have := HE.out.2.2.2.1; simp only at this; omega); intro v1 w10 hR2 hB2 hg2 hat2; obtain ⟨Av, cv, rfl⟩ := Kd.R_slice hR2; have hG10 := blk_grown HE.out.1 hg2 (fun e => (HE.out.2.1.1 g e.symm).2 rfl); have e0 : w10.cell? ⟨g, 0, none⟩ = some (.slice A L.length c) := (blk_cell hG10 0).trans rfl; have e1 : w10.cell? ⟨g, 1, none⟩ = some (.int .i64 (n + 1)) := (blk_cell hG10 1).trans rfl; have ef := blk_frozen hG10 0; have H10 := Lib.hid (And.intro hR2 (And.intro hB2 (And.intro hG10 trivial))); clear hR2 hB2 hg2 hat2 hG10)
        go_ret
        obtain ⟨hg, hac, hfr, hS', hFX⟩ := HE.out
        obtain ⟨hR2, hB2, hG10, _⟩ := H10.out
        have e2 : wrR blk idn p (n + 1) L = acc ++ [xx] := by unfold wrR; rw [← hFX]
        refine ⟨rfl, ⟨_, blk_set hG10 0 _, ?_⟩, ?_⟩
        · rw [e2]
          rw [show (acc ++ [xx]).length = acc.length + 1 by simp] at hR2
          exact Kd.R_lower (Kd.R_mono (Kd.R_far hR2 (fun k hk => hk) _) (fun _ _ => trivial)) (Nat.zero_le _)
        · exact ⟨hB2.os.trans hfr.os, hB2.tape.trans hfr.tape, hB2.output.trans hfr.output, by rw [Buf.size_set]; exact Nat.le_trans hfr.size hB2.size, fun j hj h1 h2 => (Below.heap_setCell _ _ _ _ h1).trans ((hB2.block j hj).trans (hfr.block j hj h1 h2))⟩
end Rf
end Go.Proofs.Ytmocpglnoehknaa

/- A Buffer's map and the document's list of points: what Write makes of both. -/
namespace Go.Proofs.Ytmocpglnoehknaa
open Go.RowKit Go.Proofs.YtmocpglnoehknaaW.PrintWords Go.Proofs.YtmocpglnoehknaaW.PrintLast Go.Proofs.YtmocpglnoehknaaW.PrintMore Go.Proofs.Ytmocpglnoehknaa.QT Go.Proofs.Ytmocpglnoehknaa.QR
namespace Rf
open Buf (Mp Held)
def ent (o : One) : Buf.Place × Held := (⟨o.f0, o.f1, o.f2.f0⟩, ⟨o.f2, o.f3⟩)
def toMp (L : List One) : Mp := L.map ent
theorem hit_iff {blk : Int} {idn : ByteArray} {p : S24} {o : One} : hit blk idn p o = true ↔ (ent o).1 = ⟨blk, idn, p.f0⟩ := by
  unfold hit ent
  simp only [Bool.and_eq_true, decide_eq_true_eq, beq_iff_eq, Buf.Place.mk.injEq]
theorem fold_nohit {blk : Int} {idn : ByteArray} {p : S24} : ∀ (l : List One) (s : List One × One), (∀ o ∈ l, hit blk idn p o = false) → l.foldl (wstep blk idn p) s = (s.1 ++ l, s.2)
  | [], s, _ => by simp
  | o :: r, s, h => by
    rw [List.foldl_cons]
    have h1 : wstep blk idn p s o = (s.1 ++ [o], s.2) := by unfold wstep; rw [if_neg (by rw [h o (by simp)]; simp)]
    rw [h1, fold_nohit r _ (fun q hq => h q (by simp [hq]))]
    simp
theorem aput_perm {m : Mp} {a : Buf.Place} {u v : Held} (hn : (XM.keys m).Nodup) (h : (a, u) ∈ m) : (XM.aput m a v).Perm ((a, v) :: m.filter (fun e => !decide (e.1 = a))) := by
  induction m with
  | nil => cases h
  | cons q r ih =>
    have hn' : q.1 ∉ XM.keys r ∧ (XM.keys r).Nodup := by unfold XM.keys at hn ⊢; rw [List.map_cons, List.nodup_cons] at hn; exact hn
    rw [XM.aput]
    by_cases hq : q.1 = a
    · rw [if_pos hq, List.filter_cons, if_neg (by simp [hq])]
      have : r.filter (fun e => !decide (e.1 = a)) = r := List.filter_eq_self.2 (fun e he => by
        have : e.1 ≠ a := fun h2 => hn'.1 (by rw [hq, ← h2]; exact List.mem_map.2 ⟨e, he, rfl⟩)
        simpa using this)
      rw [this]
    · rw [if_neg hq, List.filter_cons, if_pos (by simpa using hq)]
      rcases List.mem_cons.1 h with h | h
      · exact absurd (by rw [← h]) hq
      · exact ((ih hn'.2 h).cons q).trans (List.Perm.swap _ _ _)
theorem rel_write {m : Mp} {L : List One} (h : m.Perm (toMp L)) (hn : (XM.keys m).Nodup) (blk : Int) (idn : ByteArray) (p : S24) (v : Int) : (Buf.wr m blk idn p v).Perm (toMp (wrR blk idn p v L)) := by
  have hnL : (XM.keys (toMp L)).Nodup := (h.map _).nodup_iff.1 hn
  by_cases hh : ∃ o ∈ L, hit blk idn p o = true
  · obtain ⟨o, ho, hit1⟩ := hh
    obtain ⟨P, S, rfl⟩ := List.append_of_mem ho
    have hkey := hit_iff.1 hit1
    have hno : ∀ q, q ∈ P ∨ q ∈ S → (ent q).1 ≠ ⟨blk, idn, p.f0⟩ := by
      intro q hq he
      unfold XM.keys toMp at hnL
      rw [List.map_map, List.map_append, List.map_cons, List.nodup_append] at hnL
      obtain ⟨_, h2, h3⟩ := hnL
      rcases hq with hq | hq
      · exact h3 (ent q).1 (List.mem_map.2 ⟨q, hq, rfl⟩) (ent o).1 (List.mem_cons_self) (by rw [he, hkey])
      · exact (List.nodup_cons.1 h2).1 (List.mem_map.2 ⟨q, hq, by show (ent q).1 = (ent o).1; rw [he, hkey]⟩)
    have hmiss : ∀ q, q ∈ P ∨ q ∈ S → hit blk idn p q = false := fun q hq => by
      cases hc : hit blk idn p q with
      | false => rfl
      | true => exact absurd (hit_iff.1 hc) (hno q hq)
    have hf : wfold blk idn p v (P ++ o :: S) = (P ++ S, if winsP p o.f2 = true then ⟨blk, idn, p, v⟩ else o) := by
      unfold wfold
      rw [List.foldl_append, fold_nohit P _ (fun q hq => hmiss q (.inl hq)), List.foldl_cons]
      have h1 : wstep blk idn p ([] ++ P, (⟨blk, idn, p, v⟩ : One)) o = (P, if winsP p o.f2 = true then ⟨blk, idn, p, v⟩ else o) := by unfold wstep; rw [if_pos hit1]; rfl
      rw [h1, fold_nohit S _ (fun q hq => hmiss q (.inr hq))]
    have hmem : ((⟨blk, idn, p.f0⟩ : Buf.Place), (⟨o.f2, o.f3⟩ : Held)) ∈ m := h.mem_iff.2 (List.mem_map.2 ⟨o, by simp, by rw [← hkey]; rfl⟩)
    have hget : XM.aget m ⟨blk, idn, p.f0⟩ = some ⟨o.f2, o.f3⟩ := XM.aget_mem hn hmem
    unfold Buf.wr wrR
    rw [hget, hf]
    simp only
    by_cases hw : winsP p o.f2 = true
    · rw [if_pos hw, if_pos hw]
      refine (aput_perm hn hmem).trans ?_
      have h5 : (m.filter (fun e => !decide (e.1 = ⟨blk, idn, p.f0⟩))).Perm (toMp (P ++ S)) := by
        refine (h.filter _).trans (List.Perm.of_eq ?_)
        unfold toMp
        rw [List.map_append, List.map_cons, List.filter_append, List.filter_cons, if_neg (by simpa using hkey), List.map_append]
        congr 1
        · exact List.filter_eq_self.2 (fun e he => by obtain ⟨q, hq, rfl⟩ := List.mem_map.1 he; simpa using hno q (.inl hq))
        · exact List.filter_eq_self.2 (fun e he => by obtain ⟨q, hq, rfl⟩ := List.mem_map.1 he; simpa using hno q (.inr hq))
      refine (h5.cons _).trans ?_
      unfold toMp
      rw [List.map_append (l₂ := [_])]
      exact (List.perm_append_singleton _ _).symm
    · rw [if_neg hw, if_neg hw]
      refine h.trans ?_
      unfold toMp
      simp only [List.map_append, List.map_cons, List.map_nil, List.append_assoc]
      exact List.Perm.append_left _ (List.perm_append_singleton _ _).symm
  · have hmiss : ∀ q ∈ L, hit blk idn p q = false := fun q hq => by
      cases hc : hit blk idn p q with
      | false => rfl
      | true => exact absurd ⟨q, hq, hc⟩ hh
    have hf : wfold blk idn p v L = (L, ⟨blk, idn, p, v⟩) := by
      unfold wfold
      rw [fold_nohit L _ hmiss]
      rfl
    have hnm : ∀ e ∈ m, e.1 ≠ ⟨blk, idn, p.f0⟩ := by
      intro e he h2
      obtain ⟨q, hq, rfl⟩ := List.mem_map.1 (h.mem_iff.1 he)
      have := hmiss q hq
      rw [hit_iff.2 h2] at this
      cases this
    unfold Buf.wr wrR
    rw [XM.aget_none hnm, hf]
    simp only
    rw [XM.aput_new _ hnm]
    unfold toMp
    rw [List.map_append]
    exact h.append_right _
theorem keep_eq (blk ver : Int) (o : One) : Buf.keepE blk ver (ent o) = keepO blk ver o := by
  unfold Buf.keepE keepO ent
  simp only
  by_cases h1 : o.f0 = blk
  · by_cases h2 : o.f3 ≤ ver
    · rw [decide_eq_true h2, decide_eq_false (by omega)]; simp [h1]
    · rw [decide_eq_false h2, decide_eq_true (by omega)]; simp [h1]
  · have : (o.f0 == blk) = false := by simpa using h1
    rw [this]; simp
theorem rel_done {m : Mp} {L : List One} (h : m.Perm (toMp L)) (blk ver : Int) : (m.filter (Buf.keepE blk ver)).Perm (toMp (L.filter (keepO blk ver))) := by
  refine (h.filter _).trans (List.Perm.of_eq ?_)
  unfold toMp
  rw [List.filter_map]
  congr 1
  exact List.filter_congr (fun o _ => keep_eq blk ver o)
end Rf
end Go.Proofs.Ytmocpglnoehknaa
