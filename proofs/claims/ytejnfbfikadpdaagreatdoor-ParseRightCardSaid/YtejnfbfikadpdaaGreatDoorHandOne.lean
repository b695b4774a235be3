/- one of parse's reader, walked: at the functions that it is given. -/
import Derived.Test.YtejnfbfikadpdaaGreatDoorHandTk
namespace Go.Proofs.YtejnfbfikadpdaaGreatDoor.P
open Go.RowKit Go.Shelf Go.Proofs.YtejnfbfikadpdaaGreatDoorW.PrintWords Go.Proofs.YtejnfbfikadpdaaGreatDoor.Iso
set_option linter.unusedVariables false
set_option linter.unusedSimpArgs false
def oneB (q : ByteArray → Bool) (ps : List PieceR) : Bool := !(hereB ps).toList.isEmpty && q (hereB ps)
theorem here_ne {ps : List PieceR} (h : (hereB ps).toList.isEmpty = false) : ∃ p t, ps = p :: t ∧ hereB ps = p.f1 ∧ p.f1.size ≤ 8 ∧ alnum (bl p.f1) = true := by
  cases ps with
  | nil => simp [hereB, Go.ByteArray.toList_eq] at h
  | cons p t =>
    rw [hereB_cons] at h
    by_cases c : p.f1.size ≤ 8 ∧ alnum (bl p.f1) = true
    · exact ⟨p, t, rfl, by rw [hereB_cons, if_pos c], c.1, c.2⟩
    · rw [if_neg c] at h; simp [Go.ByteArray.toList_eq] at h
theorem here_size (ps : List PieceR) : (hereB ps).size ≤ 8 := by
  cases ps with
  | nil => decide
  | cons p t =>
    rw [hereB_cons]
    split
    · rename_i c; exact c.1
    · decide
theorem here_none {ps : List PieceR} (c : (hereB ps).toList.isEmpty = true) : hereB ps = ⟨#[]⟩ := by
  have := List.isEmpty_iff.1 c
  exact bl_inj (by rw [← bl_toList, this]; rfl)
abbrev SoIs (N : Nat) (q : ByteArray → Bool) : Prop := ∀ s : ByteArray, s.size ≤ 8 → ∀ W : World, Calls Tryz.prog N #[.string s] W fun e W' => e = .returned (.bool (q s)) ∧ Drawn0 W W'
set_option maxRecDepth 100000 in
set_option maxHeartbeats 1000000 in
theorem oneLanguage {w0 wp W : World} {g : Nat} {ps : List PieceR} {E : Int} {T : TG} {v1 v4 v5 v6 : Value} (h : Rd w0 wp W g ps E T v1 v4 v5 v6) {q : ByteArray → Bool} (hq : SoIs 115 q) :
    Calls Tryz.prog 78 #[.pointer (some ⟨g, 0, none⟩), .func (.func 115) #[] #[]] W fun e W' => e = .returned (.string (if oneB q ps then hereB ps else ⟨#[]⟩)) ∧ Rd w0 wp W' g (if oneB q ps then ps.drop 1 else ps) E T v1 v4 v5 v6 ∧ KeepBut W W' g none := by
  have HH := Lib.hid h
  have HQ := Lib.hid (hq (hereB ps) (here_size ps))
  clear hq
  by_cases c : (hereB ps).toList.isEmpty = true
  · have ho : oneB q ps = false := by unfold oneB; rw [c]; rfl
    have HS := Lib.hid (here_none c)
    rw [ho]
    clear h c ho
    go_enter Tryz.func78, Tryz.ntmps78
    go_wp2_with (go_at_call 76; refine (here_calls HH.out).mono ?_; rw [HS.out]; rintro e w2 ⟨rfl, ⟨nd, rfl⟩⟩)
    go_ret
    exact ⟨rfl, HH.out.drewN nd, keep_drewN (KeepBut.refl W g none) nd⟩
  · have c1 : (hereB ps).toList.isEmpty = false := by simpa using c
    obtain ⟨p, t, hps, h1, h2, h3⟩ := here_ne c1
    have hd : ps.drop 1 = t := by rw [hps]; rfl
    have HP := Lib.hid hps
    obtain ⟨s, hs⟩ : ∃ s, s = hereB ps := ⟨_, rfl⟩
    have HS := Lib.hid hs
    have hn : ¬ (s.toList = ([] : List UInt8)) := by rw [hs]; exact fun e => by rw [e] at c1; cases c1
    have hn1 : (s.toList == ([] : List UInt8)) = false := beq_eq_false_iff_ne.2 hn
    have hn2 : (s.toList != ([] : List UInt8)) = true := bne_iff_ne.2 hn
    rw [← hs] at c1
    have hn3 : (!s.toList.isEmpty) = true := by rw [c1]; rfl
    by_cases hqq : q s = true
    · have ho : oneB q ps = true := by unfold oneB; rw [← hs, c1, hqq]; rfl
      rw [ho, if_pos rfl, if_pos rfl, hd, ← hs]
      rw [← hs, hqq] at HQ
      clear h c h1 h2 h3 hd hps hs ho hqq
      go_enter Tryz.func78, Tryz.ntmps78
      go_wp2_with (first | (go_at_call 76; refine (here_calls (by first | exact HH.out | exact HH.out.drewN _)).mono ?_; rw [← HS.out]; rintro e w2 ⟨rfl, ⟨nd, rfl⟩⟩) | (go_at_call 115; refine (HQ.out _).mono ?_; rintro e w2 ⟨rfl, ⟨nd, rfl⟩⟩) | (go_at_call 83; refine (take_calls (by first | exact HH.out.drewN _) HP.out).mono ?_; rw [← HS.out]; rintro e w2 ⟨rfl, hR, hK⟩; have HR := Lib.hid hR; have HK := Lib.hid hK; clear hR hK))
      go_ret
      exact ⟨rfl, HR.out, HK.out⟩
    · have hqf : q s = false := by simpa using hqq
      have ho : oneB q ps = false := by unfold oneB; rw [← hs, hqf, Bool.and_false]
      rw [ho]
      rw [← hs, hqf] at HQ
      clear h c h1 h2 h3 hd hps hs ho hqq hqf
      go_enter Tryz.func78, Tryz.ntmps78
      go_wp2_with (first | (go_at_call 76; refine (here_calls (by first | exact HH.out | exact HH.out.drewN _)).mono ?_; rw [← HS.out]; rintro e w2 ⟨rfl, ⟨nd, rfl⟩⟩) | (go_at_call 115; refine (HQ.out _).mono ?_; rintro e w2 ⟨rfl, ⟨nd, rfl⟩⟩))
      go_ret
      exact ⟨rfl, HH.out.drewN _, KeepBut.refl W g none⟩
set_option maxRecDepth 100000 in
set_option maxHeartbeats 1000000 in
theorem oneScript {w0 wp W : World} {g : Nat} {ps : List PieceR} {E : Int} {T : TG} {v1 v4 v5 v6 : Value} (h : Rd w0 wp W g ps E T v1 v4 v5 v6) {q : ByteArray → Bool} (hq : SoIs 79 q) :
    Calls Tryz.prog 78 #[.pointer (some ⟨g, 0, none⟩), .func (.func 79) #[] #[]] W fun e W' => e = .returned (.string (if oneB q ps then hereB ps else ⟨#[]⟩)) ∧ Rd w0 wp W' g (if oneB q ps then ps.drop 1 else ps) E T v1 v4 v5 v6 ∧ KeepBut W W' g none := by
  have HH := Lib.hid h
  have HQ := Lib.hid (hq (hereB ps) (here_size ps))
  clear hq
  by_cases c : (hereB ps).toList.isEmpty = true
  · have ho : oneB q ps = false := by unfold oneB; rw [c]; rfl
    have HS := Lib.hid (here_none c)
    rw [ho]
    clear h c ho
    go_enter Tryz.func78, Tryz.ntmps78
    go_wp2_with (go_at_call 76; refine (here_calls HH.out).mono ?_; rw [HS.out]; rintro e w2 ⟨rfl, ⟨nd, rfl⟩⟩)
    go_ret
    exact ⟨rfl, HH.out.drewN nd, keep_drewN (KeepBut.refl W g none) nd⟩
  · have c1 : (hereB ps).toList.isEmpty = false := by simpa using c
    obtain ⟨p, t, hps, h1, h2, h3⟩ := here_ne c1
    have hd : ps.drop 1 = t := by rw [hps]; rfl
    have HP := Lib.hid hps
    obtain ⟨s, hs⟩ : ∃ s, s = hereB ps := ⟨_, rfl⟩
    have HS := Lib.hid hs
    have hn : ¬ (s.toList = ([] : List UInt8)) := by rw [hs]; exact fun e => by rw [e] at c1; cases c1
    have hn1 : (s.toList == ([] : List UInt8)) = false := beq_eq_false_iff_ne.2 hn
    have hn2 : (s.toList != ([] : List UInt8)) = true := bne_iff_ne.2 hn
    rw [← hs] at c1
    have hn3 : (!s.toList.isEmpty) = true := by rw [c1]; rfl
    by_cases hqq : q s = true
    · have ho : oneB q ps = true := by unfold oneB; rw [← hs, c1, hqq]; rfl
      rw [ho, if_pos rfl, if_pos rfl, hd, ← hs]
      rw [← hs, hqq] at HQ
      clear h c h1 h2 h3 hd hps hs ho hqq
      go_enter Tryz.func78, Tryz.ntmps78
      go_wp2_with (first | (go_at_call 76; refine (here_calls (by first | exact HH.out | exact HH.out.drewN _)).mono ?_; rw [← HS.out]; rintro e w2 ⟨rfl, ⟨nd, rfl⟩⟩) | (go_at_call 79; refine (HQ.out _).mono ?_; rintro e w2 ⟨rfl, ⟨nd, rfl⟩⟩) | (go_at_call 83; refine (take_calls (by first | exact HH.out.drewN _) HP.out).mono ?_; rw [← HS.out]; rintro e w2 ⟨rfl, hR, hK⟩; have HR := Lib.hid hR; have HK := Lib.hid hK; clear hR hK))
      go_ret
      exact ⟨rfl, HR.out, HK.out⟩
    · have hqf : q s = false := by simpa using hqq
      have ho : oneB q ps = false := by unfold oneB; rw [← hs, hqf, Bool.and_false]
      rw [ho]
      rw [← hs, hqf] at HQ
      clear h c h1 h2 h3 hd hps hs ho hqq hqf
      go_enter Tryz.func78, Tryz.ntmps78
      go_wp2_with (first | (go_at_call 76; refine (here_calls (by first | exact HH.out | exact HH.out.drewN _)).mono ?_; rw [← HS.out]; rintro e w2 ⟨rfl, ⟨nd, rfl⟩⟩) | (go_at_call 79; refine (HQ.out _).mono ?_; rintro e w2 ⟨rfl, ⟨nd, rfl⟩⟩))
      go_ret
      exact ⟨rfl, HH.out.drewN _, KeepBut.refl W g none⟩
set_option maxRecDepth 100000 in
set_option maxHeartbeats 1000000 in
theorem oneRegion {w0 wp W : World} {g : Nat} {ps : List PieceR} {E : Int} {T : TG} {v1 v4 v5 v6 : Value} (h : Rd w0 wp W g ps E T v1 v4 v5 v6) {q : ByteArray → Bool} (hq : SoIs 80 q) :
    Calls Tryz.prog 78 #[.pointer (some ⟨g, 0, none⟩), .func (.func 80) #[] #[]] W fun e W' => e = .returned (.string (if oneB q ps then hereB ps else ⟨#[]⟩)) ∧ Rd w0 wp W' g (if oneB q ps then ps.drop 1 else ps) E T v1 v4 v5 v6 ∧ KeepBut W W' g none := by
  have HH := Lib.hid h
  have HQ := Lib.hid (hq (hereB ps) (here_size ps))
  clear hq
  by_cases c : (hereB ps).toList.isEmpty = true
  · have ho : oneB q ps = false := by unfold oneB; rw [c]; rfl
    have HS := Lib.hid (here_none c)
    rw [ho]
    clear h c ho
    go_enter Tryz.func78, Tryz.ntmps78
    go_wp2_with (go_at_call 76; refine (here_calls HH.out).mono ?_; rw [HS.out]; rintro e w2 ⟨rfl, ⟨nd, rfl⟩⟩)
    go_ret
    exact ⟨rfl, HH.out.drewN nd, keep_drewN (KeepBut.refl W g none) nd⟩
  · have c1 : (hereB ps).toList.isEmpty = false := by simpa using c
    obtain ⟨p, t, hps, h1, h2, h3⟩ := here_ne c1
    have hd : ps.drop 1 = t := by rw [hps]; rfl
    have HP := Lib.hid hps
    obtain ⟨s, hs⟩ : ∃ s, s = hereB ps := ⟨_, rfl⟩
    have HS := Lib.hid hs
    have hn : ¬ (s.toList = ([] : List UInt8)) := by rw [hs]; exact fun e => by rw [e] at c1; cases c1
    have hn1 : (s.toList == ([] : List UInt8)) = false := beq_eq_false_iff_ne.2 hn
    have hn2 : (s.toList != ([] : List UInt8)) = true := bne_iff_ne.2 hn
    rw [← hs] at c1
    have hn3 : (!s.toList.isEmpty) = true := by rw [c1]; rfl
    by_cases hqq : q s = true
    · have ho : oneB q ps = true := by unfold oneB; rw [← hs, c1, hqq]; rfl
      rw [ho, if_pos rfl, if_pos rfl, hd, ← hs]
      rw [← hs, hqq] at HQ
      clear h c h1 h2 h3 hd hps hs ho hqq
      go_enter Tryz.func78, Tryz.ntmps78
      go_wp2_with (first | (go_at_call 76; refine (here_calls (by first | exact HH.out | exact HH.out.drewN _)).mono ?_; rw [← HS.out]; rintro e w2 ⟨rfl, ⟨nd, rfl⟩⟩) | (go_at_call 80; refine (HQ.out _).mono ?_; rintro e w2 ⟨rfl, ⟨nd, rfl⟩⟩) | (go_at_call 83; refine (take_calls (by first | exact HH.out.drewN _) HP.out).mono ?_; rw [← HS.out]; rintro e w2 ⟨rfl, hR, hK⟩; have HR := Lib.hid hR; have HK := Lib.hid hK; clear hR hK))
      go_ret
      exact ⟨rfl, HR.out, HK.out⟩
    · have hqf : q s = false := by simpa using hqq
      have ho : oneB q ps = false := by unfold oneB; rw [← hs, hqf, Bool.and_false]
      rw [ho]
      rw [← hs, hqf] at HQ
      clear h c h1 h2 h3 hd hps hs ho hqq hqf
      go_enter Tryz.func78, Tryz.ntmps78
      go_wp2_with (first | (go_at_call 76; refine (here_calls (by first | exact HH.out | exact HH.out.drewN _)).mono ?_; rw [← HS.out]; rintro e w2 ⟨rfl, ⟨nd, rfl⟩⟩) | (go_at_call 80; refine (HQ.out _).mono ?_; rintro e w2 ⟨rfl, ⟨nd, rfl⟩⟩))
      go_ret
      exact ⟨rfl, HH.out.drewN _, KeepBut.refl W g none⟩
end Go.Proofs.YtejnfbfikadpdaaGreatDoor.P
