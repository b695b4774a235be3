/- The law RenderBehind, in plain words, for every input. Condition: as every argument, texts have at most 2^47 - 4096 bytes. -/
import Derived.Test.YtojglflamecnkaaEvR
import Derived.Test.YtojglflamecnkaaPx4
namespace Go.Proofs.Ytojglflamecnkaa.Iso
set_option linter.unusedSimpArgs false
open Go Go.RowKit Go.Proofs.YtojglflamecnkaaW.PrintWords Go.Proofs.Ytojglflamecnkaa.P
theorem app_bl (s t : ByteArray) : bl (s ++ t) = bl s ++ bl t := by
  show (s ++ t).data.toList = _
  rw [ByteArray.data_append, Array.toList_append]; rfl
theorem RenderBehind_pure (a b : ByteArray) (n : Int) (h0 : 0 ≤ n) (h1 : n ≤ 255) : Ev (fun k => isoglosslaw08_RenderBehind.f k a b n) true := by
  unfold isoglosslaw08_RenderBehind.f
  simp only [law08_awake_eq, law08_short_eq, Option.bind_some, ↓reduceIte]
  have ha := take80 (bl a); have hb := take80 (bl b)
  generalize mk ((bl a).take 80) = s at *
  generalize mk ((bl b).take 80) = t at *
  by_cases h45 : n = 45
  · simp only [h45, ↓reduceIte]; exact Ev.now _
  · simp only [h45, ↓reduceIte]
    obtain ⟨c, hc⟩ : ∃ c : UInt8, (c.toNat : Int) = n := ⟨UInt8.ofNat n.toNat, by
      have : n.toNat < 256 := by omega
      rw [UInt8.toNat_ofNat']; omega⟩
    have hd : c ≠ 45 := fun e => h45 (by rw [← hc, e]; rfl)
    have hone : strOfNums [n] = mk [c] := by
      have := strOf [c]
      simp only [List.map_cons, List.map_nil, hc] at this
      exact this
    rw [hone]
    have d1 : (⟨#[45]⟩ : ByteArray).size = 1 := rfl
    have dl : bl (⟨#[45]⟩ : ByteArray) = [45] := rfl
    have o1 : (mk [c]).size = 1 := rfl
    have e1 : bl ((((s ++ (⟨#[45]⟩ : ByteArray)) ++ mk [c]) ++ (⟨#[45]⟩ : ByteArray)) ++ t) = bl s ++ 45 :: ([c] ++ 45 :: bl t) := by
      rw [app_bl, app_bl, app_bl, app_bl, dl, bl_mk]; simp
    have e2 : bl ((mk [c] ++ (⟨#[45]⟩ : ByteArray)) ++ t) = [c] ++ 45 :: bl t := by
      rw [app_bl, app_bl, dl, bl_mk]; simp
    have z1 : ((((s ++ (⟨#[45]⟩ : ByteArray)) ++ mk [c]) ++ (⟨#[45]⟩ : ByteArray)) ++ t).size = s.size + 3 + t.size := by simp only [ByteArray.size_append, d1, o1]
    have z2 : ((mk [c] ++ (⟨#[45]⟩ : ByteArray)) ++ t).size = 2 + t.size := by simp only [ByteArray.size_append, d1, o1]
    have z3 : (s ++ (⟨#[45]⟩ : ByteArray)).size = s.size + 1 := by simp only [ByteArray.size_append, d1]
    have z4 : ((s ++ (⟨#[45]⟩ : ByteArray)) ++ mk [c]).size = s.size + 2 := by simp only [ByteArray.size_append, d1, o1]
    have z5 : (((s ++ (⟨#[45]⟩ : ByteArray)) ++ mk [c]) ++ (⟨#[45]⟩ : ByteArray)).size = s.size + 3 := by simp only [ByteArray.size_append, d1, o1]
    have z6 : (mk [c] ++ (⟨#[45]⟩ : ByteArray)).size = 2 := by simp only [ByteArray.size_append, d1, o1]
    have hcs : (mk (caseS (bl s))).size = s.size := by rw [mk_size, caseS_length, bl_len]
    simp only [show s.size + 1 ≤ 9223372036854775807 from by omega, z3, o1, show s.size + 1 + 1 ≤ 9223372036854775807 from by omega, z4, show s.size + 2 + 1 ≤ 9223372036854775807 from by omega, z5, show s.size + 3 + t.size ≤ 9223372036854775807 from by omega, ↓reduceIte,
      case_eq _ (show ((((s ++ (⟨#[45]⟩ : ByteArray)) ++ mk [c]) ++ (⟨#[45]⟩ : ByteArray)) ++ t).size ≤ 4398046511104 from by rw [z1]; omega), case_eq s (by omega), Option.bind_some, hcs, show (1 : Nat) + 1 ≤ 9223372036854775807 from by omega, z6, show 2 + t.size ≤ 9223372036854775807 from by omega, e1]
    refine Ev.bind (ref_Lower_ev _ (by rw [z2]; omega)) ?_
    have z7 : (mk (caseS (bl s)) ++ (⟨#[45]⟩ : ByteArray)).size + (mk (low ([c] ++ 45 :: bl t))).size ≤ 9223372036854775807 := by
      rw [ByteArray.size_append, hcs, mk_size, low_length]
      simp only [List.length_append, List.length_cons, List.length_nil, bl_len, d1]; omega
    have e3 : ((mk (caseS (bl s)) ++ (⟨#[45]⟩ : ByteArray)) ++ mk (low ([c] ++ 45 :: bl t))).toList = caseS (bl s) ++ 45 :: low ([c] ++ 45 :: bl t) := by
      rw [bl_toList, app_bl, app_bl, dl, bl_mk, bl_mk]; simp
    simp only [e2, z7, mk_toList, e3, caseS_behind _ _ hd, ↓reduceIte, case_eq _ (show ((mk [c] ++ (⟨#[45]⟩ : ByteArray)) ++ t).size ≤ 4398046511104 from by rw [z2]; omega), Option.bind_some]
    refine Ev.bind (ref_Lower_ev _ (by rw [z2]; omega)) ?_
    simp only [e2, mk_toList, caseS_single c hd, beq_self_eq_true]
    exact Ev.now _
end Go.Proofs.Ytojglflamecnkaa.Iso
namespace Go.Proofs.Ytojglflamecnkaa.Pure
open Go.RowKit Go.Proofs.Ytojglflamecnkaa.P Go.Proofs.YtojglflamecnkaaW.PrintWords
theorem RenderBehind : isoglosslaw08_RenderBehind.Pure := fun s t n _ _ h => by
  have hw : 0 ≤ n ∧ n ≤ 255 := by
    have e1 : IntKind.u8.min = 0 := by decide
    have e2 : IntKind.u8.max = 255 := by decide
    simp [Lit.wf] at h
    omega
  exact (Iso.RenderBehind_pure s t n hw.1 hw.2).rounds
end Go.Proofs.Ytojglflamecnkaa.Pure
