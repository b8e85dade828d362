/- FilesetNames over numbers and strings alone: the program's names and the document's are one. -/
import Derived.Test.YtgfaocfdknckpaaDoorQB
namespace Go.Proofs.YtgfaocfdknckpaaDoor
open Go.RowKit Go.Proofs.YtgfaocfdknckpaaDoorW.PrintWords Go.Proofs.YtgfaocfdknckpaaDoorW.PrintLast Go.Proofs.YtgfaocfdknckpaaDoorW.PrintMore

/-- What may be: the numbers' bounds. -/
def mayB (a0 a1 a2 a3 : Int) : Bool := decide ((0 ≤ a0 ∧ a0 ≤ 3) ∧ (0 ≤ a1 ∧ a1 ≤ 7) ∧ (0 ≤ a2 ∧ a2 ≤ 1099511627776) ∧ (1 ≤ a3 ∧ a3 ≤ 999999))
theorem within_eq (a lo hi : Int) : QB.thermographref10_within.f a lo hi = some (decide (lo ≤ a ∧ a ≤ hi)) := by
  unfold QB.thermographref10_within.f
  by_cases h : a ≥ lo
  · rw [if_pos h]; congr 1; simp only [decide_eq_decide]; exact ⟨fun h2 => ⟨h, h2⟩, fun h2 => h2.2⟩
  · rw [if_neg h]; congr 1; symm; exact decide_eq_false (fun h2 => h h2.1)
theorem may_eq (a0 a1 a2 a3 : Int) : QB.thermographref10_may.f a0 a1 a2 a3 = some (mayB a0 a1 a2 a3) := by
  unfold QB.thermographref10_may.f mayB
  simp only [within_eq, Option.bind_some]
  by_cases h0 : 0 ≤ a0 ∧ a0 ≤ 3 <;> by_cases h1 : 0 ≤ a1 ∧ a1 ≤ 7 <;> by_cases h2 : 0 ≤ a2 ∧ a2 ≤ 1099511627776 <;> simp [h0, h1, h2]
theorem fits_eq (a0 a1 a2 a3 : Int) : QA.fileset_Key_fits.f a0 a1 a2 a3 = some (mayB a0 a1 a2 a3) := may_eq a0 a1 a2 a3

/-- The name of a file. -/
def nameOf (a0 a1 a2 a3 : Int) (s : ByteArray) : ByteArray :=
  ((((((((((⟨#[118]⟩ : ByteArray) ++ ⟨(Lib.itoa a0).toArray⟩) ++ (⟨#[45]⟩ : ByteArray)) ++ ⟨(Lib.itoa a1).toArray⟩) ++ (⟨#[45]⟩ : ByteArray)) ++ ⟨(Lib.itoa a2).toArray⟩) ++ (⟨#[45]⟩ : ByteArray)) ++ ⟨(Lib.itoa a3).toArray⟩) ++ (⟨#[46]⟩ : ByteArray)) ++ s)
theorem size_num (n : Int) (h0 : 0 ≤ n) (h1 : n ≤ 1099511627776) : (⟨(Lib.itoa n).toArray⟩ : ByteArray).size ≤ 21 := Lib.itoa_length_le n (by omega) (by omega)
theorem size_of_digits (u k : Nat) (hk : 1 ≤ k) (h : u < 10 ^ k) : Lib.nDigits u ≤ k := by
  rcases Nat.lt_or_ge k (Lib.nDigits u) with hlt | hge
  · exfalso
    have hp := Lib.nDigits_pos u
    by_cases h1 : u < 10
    · rw [Lib.nDigits_small h1] at hlt; omega
    · have key : ∀ (m v : Nat), m < Lib.nDigits v → 1 ≤ m → 10 ^ m ≤ v := by
        intro m
        induction m with
        | zero => intro v _ h; omega
        | succ m ih =>
          intro v hm _
          by_cases hv : v < 10
          · rw [Lib.nDigits_small hv] at hm; omega
          · rw [Lib.nDigits_big hv] at hm
            by_cases hm0 : m = 0
            · subst hm0; simpa using Nat.le_of_not_lt hv
            · have := ih (v / 10) (by omega) (by omega)
              rw [Nat.pow_succ]
              have := Nat.mul_le_mul_right 10 this
              omega
      have := key k u hlt hk
      omega
  · exact hge
theorem size_upto (n : Int) (k : Nat) (hk : 1 ≤ k) (h0 : 0 ≤ n) (h : n < 10 ^ k) : (⟨(Lib.itoa n).toArray⟩ : ByteArray).size ≤ k := by
  obtain ⟨u, rfl⟩ : ∃ u : Nat, n = u := ⟨n.toNat, by omega⟩
  show (Lib.itoa (u : Int)).toArray.size ≤ k
  rw [Lib.itoa_nonneg]
  simp only [List.size_toArray, Lib.decDigits_length]
  exact size_of_digits u k hk (by exact_mod_cast h)
theorem size_lit (a : Array UInt8) : (⟨a⟩ : ByteArray).size = a.size := rfl
theorem name_size (a0 a1 a2 a3 : Int) (s : ByteArray) (h : mayB a0 a1 a2 a3 = true) : (nameOf a0 a1 a2 a3 s).size ≤ 27 + s.size := by
  unfold mayB at h
  have h := of_decide_eq_true h
  unfold nameOf
  simp only [ByteArray.size_append]
  have z0 := size_upto a0 1 (by omega) (by omega) (by omega)
  have z1 := size_upto a1 1 (by omega) (by omega) (by omega)
  have z2 := size_upto a2 13 (by omega) (by omega) (by omega)
  have z3 := size_upto a3 6 (by omega) (by omega) (by omega)
  have y1 : (⟨#[118]⟩ : ByteArray).size = 1 := rfl
  have y2 : (⟨#[45]⟩ : ByteArray).size = 1 := rfl
  have y3 : (⟨#[46]⟩ : ByteArray).size = 1 := rfl
  omega

theorem name_eq (a0 a1 a2 a3 : Int) (s : ByteArray) (hs : s.size ≤ 4096) (h : mayB a0 a1 a2 a3 = true) : QB.thermographref10_name.f a0 a1 a2 a3 s = some (nameOf a0 a1 a2 a3 s) := by
  have hb := of_decide_eq_true (show decide _ = true from h)
  have hn := name_size a0 a1 a2 a3 s h
  unfold nameOf at hn ⊢
  simp only [ByteArray.size_append] at hn
  have e : ∀ n : Int, 0 ≤ n → n ≤ 1099511627776 → thermographref10_digits.f n = some ⟨(Lib.itoa n).toArray⟩ := fun n h0 h1 => by unfold thermographref10_digits.f; rw [if_pos ⟨h0, by omega⟩]
  have y1 : (⟨#[118]⟩ : ByteArray).size = 1 := rfl
  unfold QB.thermographref10_name.f
  rw [e a0 (by omega) (by omega)]
  simp only [Option.bind_some]
  rw [if_pos (by omega), if_pos (by simp only [ByteArray.size_append]; omega), e a1 (by omega) (by omega)]
  simp only [Option.bind_some]
  rw [if_pos (by simp only [ByteArray.size_append]; omega), if_pos (by simp only [ByteArray.size_append]; omega), e a2 (by omega) (by omega)]
  simp only [Option.bind_some]
  rw [if_pos (by simp only [ByteArray.size_append]; omega), if_pos (by simp only [ByteArray.size_append]; omega), e a3 (by omega) (by omega)]
  simp only [Option.bind_some]
  rw [if_pos (by simp only [ByteArray.size_append]; omega), if_pos (by simp only [ByteArray.size_append]; omega), if_pos (by simp only [ByteArray.size_append]; omega)]
theorem file_eq (a0 a1 a2 a3 : Int) (s : ByteArray) (hs : s.size ≤ 4096) (h : mayB a0 a1 a2 a3 = true) : QA.fileset_Key_file.f a0 a1 a2 a3 s = some (nameOf a0 a1 a2 a3 s) := by
  have hb := of_decide_eq_true (show decide _ = true from h)
  rw [← name_eq a0 a1 a2 a3 s hs h]
  have e : ∀ n : Int, 0 ≤ n → n ≤ 1099511627776 → strconv_Itoa.f n = thermographref10_digits.f n := fun n h0 h1 => by unfold thermographref10_digits.f strconv_Itoa.f; rw [if_pos ⟨by omega, by omega⟩, if_pos ⟨h0, by omega⟩]
  unfold QA.fileset_Key_file.f QB.thermographref10_name.f
  rw [e a0 (by omega) (by omega), e a1 (by omega) (by omega), e a2 (by omega) (by omega), e a3 (by omega) (by omega)]

/-- What both answer. -/
def answer (a0 a1 a2 a3 : Int) (s : ByteArray) : ByteArray × Int := scan partNames s (mayB a0 a1 a2 a3) (nameOf a0 a1 a2 a3 s)
theorem Name_eq (a0 a1 a2 a3 : Int) (s : ByteArray) (hs : s.size ≤ 4096) : fileset_Name.f a0 a1 a2 a3 s = some (answer a0 a1 a2 a3 s) := by
  unfold fileset_Name.f answer
  rw [fits_eq]
  simp only [Option.bind_some]
  cases h : mayB a0 a1 a2 a3 with
  | true => rw [if_pos rfl, file_eq a0 a1 a2 a3 s hs h]; rfl
  | false => rw [if_neg (by simp), scan_no]
theorem loop_eq (a0 a1 a2 a3 : Int) (s : ByteArray) (hs : s.size ≤ 4096) (m : Nat) : ∀ (d i : Nat), i + d = 7 →
    QB.thermographref10_Name.l0 (2 * d + 2 + m) s partNames i a0 a1 a2 a3 = some (scan (partNames.drop i) s (mayB a0 a1 a2 a3) (nameOf a0 a1 a2 a3 s)) := by
  intro d
  induction d with
  | zero =>
    intro i hi
    obtain rfl : i = 7 := by omega
    rw [show 2 * 0 + 2 + m = (m + 1) + 1 from by omega]
    simp only [QB.thermographref10_Name.l0, QB.thermographref10_Name.j1]
    rw [if_neg (by simp [partNames]), if_neg (by simp)]
    rfl
  | succ d ih =>
    intro i hi
    have hlt : i < 7 := by omega
    have hd : partNames.drop i = rdOf ByteArray.empty partNames i :: partNames.drop (i + 1) := by
      unfold rdOf
      rw [List.getD_eq_getElem?_getD, Int.toNat_natCast, List.getElem?_eq_getElem (by simpa [partNames] using hlt)]
      exact List.drop_eq_getElem_cons (by simpa [partNames] using hlt)
    rw [show 2 * (d + 1) + 2 + m = ((2 * d + 2 + m) + 1) + 1 from by omega]
    simp only [QB.thermographref10_Name.l0, QB.thermographref10_Name.j1, may_eq, Option.bind_some]
    rw [if_pos (by simp [partNames]; omega), hd]
    cases h : mayB a0 a1 a2 a3 with
    | true =>
      rw [if_pos rfl, if_pos (by omega), if_pos (by simp [partNames]; omega)]
      by_cases hp : (rdOf ByteArray.empty partNames i).toList = s.toList
      · rw [if_pos hp, name_eq a0 a1 a2 a3 s hs h]
        simp only [scan, Option.bind_some]
        rw [if_pos ⟨hp, trivial⟩]
      · rw [if_neg hp, show wrap64 ((i : Int) + 1) = ((i + 1 : Nat) : Int) from by unfold wrap64; omega, ih (i + 1) (by omega), h]
        simp only [scan]
        rw [if_neg (fun h => hp h.1)]
    | false => rw [if_neg (by simp), scan_no]
theorem ref_eq (a0 a1 a2 a3 : Int) (s : ByteArray) (hs : s.size ≤ 4096) (m : Nat) : QB.thermographref10_Name.f (16 + m) a0 a1 a2 a3 s = some (answer a0 a1 a2 a3 s) := loop_eq a0 a1 a2 a3 s hs m 7 0 (by omega)
theorem scan_size (fl s : ByteArray) (b : Bool) (h : fl.size ≤ 40) : ∀ l : List ByteArray, (scan l s b fl).1.size ≤ 40
  | [] => (by decide : (⟨#[]⟩ : ByteArray).size ≤ 40)
  | p :: l => by unfold scan; split; exact h; exact scan_size fl s b h l

theorem names_pure (a0 a1 a2 a3 : Int) (s : ByteArray) : QB.thermographlaw10_FilesetNames.f 17 a0 a1 a2 a3 s = some true := by
  unfold QB.thermographlaw10_FilesetNames.f
  by_cases hs : (s.size : Int) > 4096
  · rw [if_pos hs]
  · rw [if_neg hs, Name_eq a0 a1 a2 a3 s (by omega), ref_eq a0 a1 a2 a3 s (by omega) 1]
    simp only [Option.bind_some, if_true, QB.thermographlaw10_FilesetNames.j0]
    rw [if_neg (by simp), Name_eq a0 a1 a2 a3 _ (by decide), ref_eq a0 a1 a2 a3 _ (by decide) 0]
    simp only [Option.bind_some, if_true]
    split
    · refine congrArg some (decide_eq_true ?_)
      unfold answer
      cases h : mayB a0 a1 a2 a3 with
      | true =>
        have := scan_size (nameOf a0 a1 a2 a3 ⟨#[105, 110, 102, 111]⟩) ⟨#[105, 110, 102, 111]⟩ true (by have := name_size a0 a1 a2 a3 ⟨#[105, 110, 102, 111]⟩ h; have e : (⟨#[105, 110, 102, 111]⟩ : ByteArray).size = 4 := rfl; omega) partNames
        omega
      | false => rw [scan_no]; decide
    · rfl
end Go.Proofs.YtgfaocfdknckpaaDoor
