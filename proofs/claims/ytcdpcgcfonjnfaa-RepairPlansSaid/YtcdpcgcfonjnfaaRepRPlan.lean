/- The document's Plan: the same. -/
import Derived.Test.YtcdpcgcfonjnfaaRepPlan
import Derived.Test.YtcdpcgcfonjnfaaQT5
namespace Go.Proofs.Ytcdpcgcfonjnfaa
set_option linter.unusedVariables false
set_option linter.unusedSimpArgs false
open Go.RowKit Go.Proofs.YtcdpcgcfonjnfaaW.PrintWords Go.Proofs.YtcdpcgcfonjnfaaW.PrintLast Go.Proofs.YtcdpcgcfonjnfaaW.PrintMore Go.Proofs.Ytcdpcgcfonjnfaa.QT Go.Proofs.Ytcdpcgcfonjnfaa.QS Go.Proofs.Ytcdpcgcfonjnfaa.StableLaw
namespace Rp
abbrev Rk := S40
def refA (a : Ak) : Rk := ⟨a.f0, plA a⟩
def insR (a : Rk) : List Rk → List Rk
  | [] => [a]
  | y :: r => if lt a.f1 y.f1 then a :: y :: r else y :: insR a r
theorem insR_len (a : Rk) : ∀ l : List Rk, (insR a l).length = l.length + 1
  | [] => rfl
  | y :: r => by
    unfold insR
    split
    · rfl
    · rw [List.length_cons, insR_len a r, List.length_cons]
theorem insR_map (x : Ak) : ∀ l : List Ak, (insB ltA x l).map refA = insR (refA x) (l.map refA)
  | [] => rfl
  | y :: r => by
    rw [List.map_cons]
    unfold insB insR
    by_cases h : lt (plA x) (plA y)
    · rw [if_pos (show ltA x y = true from decide_eq_true h), if_pos (show lt (refA x).f1 (refA y).f1 from h)]
      rfl
    · rw [if_neg (show ¬ ltA x y = true from fun h2 => h (of_decide_eq_true h2)), if_neg (show ¬ lt (refA x).f1 (refA y).f1 from h), List.map_cons, insR_map x r]
theorem rdA {A B : List Rk} {y : Rk} (n : Int) (h : n = A.length) : rd_T40 (A ++ y :: B) n = y := by subst h; unfold rd_T40; simp
theorem insr_ev (own : List Mt) (L : List (List Mt)) (i : Nat) (D : List Pc) (j : Nat) (hj : j < D.length) (hD : D.length ≤ 1000000) (r : List Rk) : ∀ (B A : List Rk), A.length + B.length ≤ 1000000 → Ev (fun k => thermographref19_Plan.l1 k own L (A ++ insR ⟨(i : Int), D[j]⟩ B) (i : Int) D ((j + 1 : Nat) : Int)) r →
    Ev (fun k => thermographref19_Plan.l2 k own L (A ++ B) (i : Int) D (j : Int) (A.length : Int)) r
  | [], A, hl, h => by
    refine Ev.step (fun k => ?_) h
    rw [List.append_nil, thermographref19_Plan.l2, if_neg (by omega)]
    simp only [Option.bind_some, List.nil_append, List.length_nil]
    rw [if_pos (by omega), if_pos (by omega), if_pos (by rw [List.length_take]; simp only [List.length_nil] at hl; omega)]
    rw [if_pos (by omega), if_pos (by omega)]
    rw [Int.toNat_natCast, List.take_length, List.drop_length]
    rw [if_pos (by simp only [List.length_nil] at hl; omega), if_pos (by simp only [List.length_append, List.length_nil, List.length_cons] at hl ⊢; omega), wrapN j (by omega), rdPc hj]
    simp [insR]
  | y :: B, A, hl, h => by
    simp only [List.length_cons] at hl
    have hlt : (A.length : Int) < ((A ++ y :: B).length : Int) := by simp only [List.length_append, List.length_cons]; omega
    by_cases h1 : lt D[j] y.f1
    · have e : A ++ insR ⟨(i : Int), D[j]⟩ (y :: B) = A ++ ⟨(i : Int), D[j]⟩ :: y :: B := by rw [insR, if_pos h1]
      rw [e] at h
      refine Ev.step (fun k => ?_) h
      rw [thermographref19_Plan.l2, if_pos hlt, if_pos (by omega), if_pos (by omega), if_pos (by omega), rdA _ rfl, rdPc hj, less_eq, Option.bind_some, decide_eq_true h1, if_pos rfl]
      simp only [Option.bind_some, List.nil_append, List.length_nil]
      rw [if_pos (by omega), if_pos (by rw [List.length_take]; simp only [List.length_append, List.length_cons]; omega)]
      rw [Int.toNat_natCast, List.take_left, List.drop_left]
      rw [if_pos (by omega), if_pos (by simp only [List.length_append, List.length_cons, List.length_nil]; omega), wrapN j (by omega)]
      simp
    · have ih := insr_ev own L i D j hj hD r B (A ++ [y]) (by simp only [List.length_append, List.length_cons, List.length_nil]; omega) (by
        have e : A ++ insR ⟨(i : Int), D[j]⟩ (y :: B) = (A ++ [y]) ++ insR ⟨(i : Int), D[j]⟩ B := by rw [insR, if_neg h1]; simp
        rwa [e] at h)
      refine Ev.step (fun k => ?_) ih
      rw [thermographref19_Plan.l2, if_pos hlt, if_pos (by omega), if_pos (by omega), if_pos (by omega), rdA _ rfl, rdPc hj, less_eq, Option.bind_some, decide_eq_false h1, if_neg (by simp), wrapN _ (by omega)]
      simp
def goL (i : Nat) (D : List Pc) (out : List Rk) : List Rk := D.foldl (fun a p => insR ⟨(i : Int), p⟩ a) out
theorem goL_len (i : Nat) : ∀ (D : List Pc) (out : List Rk), (goL i D out).length = out.length + D.length
  | [], out => rfl
  | p :: D, out => by
    have := goL_len i D (insR ⟨(i : Int), p⟩ out)
    rw [insR_len] at this
    unfold goL at this ⊢
    rw [List.foldl_cons, this, List.length_cons]
    omega
theorem rlist_ev (own : List Mt) (L : List (List Mt)) (i : Nat) (hi : i ≤ 1000000) (D : List Pc) (hD : D.length ≤ 1000000) (r : List Rk) : ∀ (d j : Nat) (out : List Rk), j + d = D.length → out.length + d ≤ 1000000 → Ev (fun k => thermographref19_Plan.l0 k own L (goL i (D.drop j) out) ((i + 1 : Nat) : Int)) r →
    Ev (fun k => thermographref19_Plan.l1 k own L out (i : Int) D (j : Int)) r
  | 0, j, out, hd, hl, h => by
    rw [List.drop_eq_nil_of_le (by omega)] at h
    exact Ev.step (fun k => by rw [thermographref19_Plan.l1, if_neg (by omega), wrapN i hi]; rfl) h
  | d + 1, j, out, hd, hl, h => by
    have hj : j < D.length := by omega
    rw [List.drop_eq_getElem_cons hj] at h
    have ih := rlist_ev own L i hi D hD r d (j + 1) (insR ⟨(i : Int), D[j]⟩ out) (by omega) (by rw [insR_len]; omega) h
    have h3 := insr_ev own L i D j hj hD r out [] (by simp only [List.length_nil]; omega) (by rw [List.nil_append]; exact ih)
    exact Ev.step (fun k => by rw [thermographref19_Plan.l1, if_pos (by omega)]; rfl) h3
def goR (own : List Mt) (L : List (List Mt)) : Nat → Nat → List Rk → List Rk
  | 0, i, out => out
  | d + 1, i, out => goR own L d (i + 1) (goL i (dfo own (rd_L4 L (i : Int))) out)
theorem rplan_ev0 (own : List Mt) (L : List (List Mt)) (ho : own.length ≤ 1000000) (hL : L.length ≤ 1000000) (hS : sumL L ≤ 1000000) : ∀ (d i : Nat) (out : List Rk), i + d = L.length → out.length ≤ sumL (L.take i) → Ev (fun k => thermographref19_Plan.l0 k own L out (i : Int)) (goR own L d i out)
  | 0, i, out, hd, hl => Ev.step (f := fun _ => some out) (fun k => by rw [thermographref19_Plan.l0, if_neg (by omega)]) (Ev.now _)
  | d + 1, i, out, hd, hl => by
    have hi : i < L.length := by omega
    have hx : rd_L4 L (i : Int) = L[i] := rdLL hi
    have hxl : L[i].length ≤ 1000000 := Nat.le_trans (sumL_mem (List.getElem_mem hi)) hS
    have hdl := dfo_len own L[i]
    have hst : sumL (L.take (i + 1)) = sumL (L.take i) + L[i].length := by
      rw [List.take_succ_eq_append_getElem hi]
      unfold sumL
      rw [List.map_append, List.sum_append]
      simp
    have hst2 := sumL_take_le L (i + 1)
    have ih := rplan_ev0 own L ho hL hS d (i + 1) (goL i (dfo own (rd_L4 L (i : Int))) out) (by omega) (by rw [goL_len, hx]; omega)
    have h1 := rlist_ev own L i (by omega) (dfo own (rd_L4 L (i : Int))) (by rw [hx]; omega) _ (dfo own (rd_L4 L (i : Int))).length 0 out (by omega) (by rw [hx]; omega) (by rw [List.drop_zero]; exact ih)
    have h2 : Ev (fun k => thermographref19_Diff.f k own (rd_L4 L (i : Int))) (dfo own (rd_L4 L (i : Int))) := by
      have h := rdiff_ev0 own (rd_L4 L (i : Int)) ho (by rw [hx]; exact hxl) (rd_L4 L (i : Int)).length 0 [] (by omega) (Nat.le_refl _)
      rw [List.drop_zero] at h
      exact Ev.congr (fun k => by unfold thermographref19_Diff.f; rfl) h
    refine Ev.step (fun k => ?_) (h2.bind (f := fun k t => thermographref19_Plan.l1 k own L out (i : Int) t 0) h1)
    rw [thermographref19_Plan.l0, if_pos (by omega), if_pos (by omega)]
theorem srtA_app (P Q : List Ak) : srtA (P ++ Q) = Q.foldl (fun a x => insB ltA x a) (srtA P) := by
  unfold srtA
  rw [List.foldl_append]
theorem goL_srt (i : Nat) : ∀ (D : List Pc) (P : List Ak), goL i D ((srtA P).map refA) = (srtA (P ++ D.map (askOf (i : Int)))).map refA
  | [], P => by rw [List.map_nil, List.append_nil]; rfl
  | p :: D, P => by
    have ih := goL_srt i D (P ++ [askOf (i : Int) p])
    rw [srtA_app P [askOf (i : Int) p], List.foldl_cons, List.foldl_nil, insR_map] at ih
    rw [List.map_cons, show P ++ askOf (i : Int) p :: D.map (askOf (i : Int)) = P ++ [askOf (i : Int) p] ++ D.map (askOf (i : Int)) by simp, ← ih]
    rfl
theorem goR_srt (own : List Mt) (L : List (List Mt)) : ∀ (d i : Nat), goR own L d i ((srtA (rawN own L i)).map refA) = (srtA (rawN own L (i + d))).map refA
  | 0, i => rfl
  | d + 1, i => by
    have ih := goR_srt own L d (i + 1)
    rw [goR, goL_srt, show i + (d + 1) = i + 1 + d by omega, ← ih]
    rfl
theorem rplan_calls (w : World) (A : Option Addr) (c : Nat) (own : List Mt) (hC : Kd.C k56 w A own.length own) (hc : own.length ≤ c) (hn : own.length ≤ 1000000) (A' : Option Addr) (c' : Nat) (L : List (List Mt)) (hL : Kd.C kLL w A' L.length L) (hc' : L.length ≤ c') (hn' : L.length ≤ 1000000) (hS : sumL L ≤ 1000000) :
    Calls Try.prog 10 #[.slice A own.length c, .slice A' L.length c'] w fun e w' => ∃ v : Value, e = .returned v ∧ Kd.R k40 40 w' w.heap.size (fun _ => True) v ((srtA (rawN own L L.length)).map refA) ∧ Below w.heap.size w w' := by
  have h := rplan_ev0 own L hn hn' hS L.length 0 [] (by omega) (Nat.zero_le _)
  have e := goR_srt own L L.length 0
  rw [Nat.zero_add] at e
  have e2 : goR own L L.length 0 [] = (srtA (rawN own L L.length)).map refA := e
  rw [e2] at h
  obtain ⟨k, hk⟩ := h.rounds
  exact (thermographref19_Plan.calls k A c own A' c' L _ w hC hc hL hc' hk).mono fun e w' ⟨v, he, hR, hb⟩ => ⟨v, he, hR, hb⟩
end Rp
end Go.Proofs.Ytcdpcgcfonjnfaa
