/- BufferScript: whatever script: the Go function returns true, and its arguments read as before. -/
import Derived.Test.YtmocpglnoehknaaScriptLaw
import Derived.Test.YtmocpglnoehknaaSteps
namespace Go.Proofs.Ytmocpglnoehknaa
set_option linter.unusedVariables false
set_option linter.unusedSimpArgs false
open Go.Proofs.Ytmocpglnoehknaa.QH Go.ChangeShapes Go.WideShapes Go.ChangeAt Go.RowKit Go.Joins Go.Deep Go.Proofs.YtmocpglnoehknaaW.PrintWords Go.Proofs.Ytmocpglnoehknaa.QT
open Go.ChangeMaps (open_string shut_string)
namespace ScriptRow
open StepsRow (laidOut own open_steps)
theorem steps_at {W : World} {H : Type} {enc : TypeId × Value → H} {a0 : Option Addr} {len0 cap0 : Nat} {x : DataW H × List MemPlace} (h0 : ∃ fuel, DataW.trod enc Try.prog W 0 (fun _ => true) true fuel 40 [.slice a0 len0 cap0] = some x) :
    ∃ l : List S47, len0 = l.length ∧ l.length ≤ cap0 ∧ l.length ≤ maxLen ∧ Kd.C k47 W a0 l.length l ∧ ∀ s ∈ l, Buf.OkP ⟨s.f1, s.f3, s.f4.f0⟩ := by
  obtain ⟨fuel, hf⟩ := h0
  rcases open_steps hf with hcs | ⟨x, c, l, hcs, hl, hml, hC, hwf⟩
  · simp at hcs
    obtain ⟨rfl, rfl, rfl⟩ := hcs
    exact ⟨[], rfl, Nat.le_refl _, by simp, Kd.C_nil _ _, by simp⟩
  · simp at hcs
    obtain ⟨rfl, rfl, rfl⟩ := hcs
    exact ⟨l, rfl, hl, hml, hC, hwf⟩
set_option maxRecDepth 100000 in
theorem lifted (os : Os) (started : os.Started) (H : Type) (enc : TypeId × Value → H) :
    ReturnsInHanded {} Try.checked os 7 .any (Rows.bufferScriptSpec.pre6 enc Try.prog Try.f7 Rows.bufferScriptRow.domain false) (Rows.bufferScriptSpec.post enc Try.prog Try.f7 false true false false) := by
  refine returnsInHanded_of_change_sized (C := Try.checked) own started (by kernel_rfl) Try.func7
    (ChangeSpec.witness6 (enc := enc) (C := Try.checked) false ⟨#[], #[.slice none 0 0], []⟩ 8 (by kernel_rfl) (by kernel_rfl) (by kernel_rfl) (by kernel_rfl)) ?_
  intro W base args ds gs before hval0 hW hcnd hsz0 _
  have hval : ∀ (j : Nat) t v, Try.f7.params[j]? = some t → args[j]? = some v → Value.okWide Try.prog W .any base t v := hval0
  have hW' := hW
  obtain ⟨p, q, hA0, hV, rfl, hfz, hnd⟩ := hW
  have hA : DataW.TrodAll enc Try.prog W 0 (fun _ => true) true Try.f7.params.toList args.toList ds p := hA0
  rw [Try.params7] at hA hval
  obtain ⟨v0, vs0, d0, ds0, p0, q0, hargs, rfl, rfl, h0, r0⟩ := trodAll_cons hA
  obtain ⟨rfl, rfl, rfl⟩ := trodAll_nil r0
  obtain rfl : args = #[v0] := by cases args; simp_all
  obtain ⟨rfl, rfl⟩ := trodVars_none hV
  have k0 := h0
  have lt0 : ∀ x ∈ p0, x.block < W.heap.size := by obtain ⟨m, hm⟩ := k0; exact DataW.trod_lt m _ _ _ hm
  obtain ⟨a0, len0, cap0, rfl⟩ := okWide_slice Try.underlying40 (hval 0 40 v0 rfl rfl)
  obtain ⟨la, hlen, hcap, hml, hC, hwf⟩ := steps_at h0
  subst hlen
  clear hA0 hval0 hsz0
  have main := Both.script_calls W a0 cap0 la hC hcap hml hwf
  refine main.mono fun e W' ⟨he, bel⟩ => ?_
  subst he
  exact ⟨_, rfl, _, _, _, [], _, [], hW', trodAll_mk1 (shut_bool Try.underlying4 _), (trodAll_cons_mk (Below.trod laidOut (by kernel_rfl) (of_decide_eq_true (by kernel_rfl)) k0 bel lt0) trodAll_mk0), rfl, bel.frame _, fun h => by cases h⟩
theorem said : Rows.BufferScriptSaid :=
  OpenClaim.holds_of_wide 7 Try.f7 rfl rfl rfl rfl rfl rfl rfl ⟨rfl, rfl, rfl, rfl, rfl⟩ rfl rfl rfl rfl rfl (by kernel_rfl) Try.func7 (by kernel_rfl)
    (of_decide_eq_true (by kernel_rfl)) (by unfold Func.isWrapper; first | (rw [if_pos (by decide +kernel)]; kernel_rfl) | (rw [if_neg (by decide +kernel)]; exact ⟨rfl, rfl⟩))
    (fun os started H enc _ => lifted os started H enc)
end ScriptRow
/-- BufferScript is true for every input; the input reads as it did. -/
theorem bufferScript_holds : Rows.BufferScriptSaid := ScriptRow.said
#print axioms bufferScript_holds
end Go.Proofs.Ytmocpglnoehknaa
