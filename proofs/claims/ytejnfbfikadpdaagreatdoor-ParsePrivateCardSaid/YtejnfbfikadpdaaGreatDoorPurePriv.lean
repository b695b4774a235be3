/- What the parser makes of a text behind x: private subtags, whatever they are. Plain words. -/
import Derived.Test.YtejnfbfikadpdaaGreatDoorPureK1
import Derived.Test.YtejnfbfikadpdaaGreatDoorHandParse
import Derived.Test.YtejnfbfikadpdaaGreatDoorEvTxt
import Derived.Test.YtejnfbfikadpdaaGreatDoorPx15
namespace Go.Proofs.YtejnfbfikadpdaaGreatDoor.P
open Go.RowKit Go.Proofs.YtejnfbfikadpdaaGreatDoorW.PrintWords Go.Proofs.YtejnfbfikadpdaaGreatDoor.Iso
set_option linter.unusedVariables false
set_option linter.unusedSimpArgs false
def offP (a : Nat) (t : Str) : List PieceR := (eachGo a [] t).map fun p => ⟨(p.1 : Int), mk (low p.2)⟩
theorem piecesOf_off (s : ByteArray) : piecesOf s = offP 0 (bl s) := by
  unfold piecesOf offP eachB each mkP
  rw [List.map_map]; rfl
theorem eachGo_append : ∀ (h t : Str) (a : Nat) (acc : Str), eachGo a acc (h ++ 45 :: t) = eachGo a acc h ++ eachGo (a + acc.length + h.length + 1) [] t
  | [], t, a, acc => by
    rw [List.nil_append, eachGo, eachGo, if_pos rfl]; rfl
  | c :: h, t, a, acc => by
    rw [List.cons_append, eachGo, eachGo]
    split
    · rw [eachGo_append h t _ [], List.cons_append]
      congr 3
      simp only [List.length_cons, List.length_nil]; omega
    · rw [eachGo_append h t a (acc ++ [c])]
      congr 2
      simp only [List.length_append, List.length_cons, List.length_nil]; omega
theorem offP_append (h t : Str) (a : Nat) : offP a (h ++ 45 :: t) = offP a h ++ offP (a + h.length + 1) t := by
  unfold offP
  rw [eachGo_append, List.map_append]; rfl
theorem eachGo_ge : ∀ (s : Str) (a : Nat) (acc : Str), ∀ p ∈ eachGo a acc s, a ≤ p.1
  | [], a, acc, p, h => by
    rw [eachGo, List.mem_singleton] at h
    rw [h]; exact Nat.le_refl _
  | c :: t, a, acc, p, h => by
    rw [eachGo] at h
    split at h
    · rcases List.mem_cons.1 h with rfl | h
      · exact Nat.le_refl _
      · have := eachGo_ge t _ _ p h
        omega
    · exact eachGo_ge t _ _ p h
theorem off_ge {a : Nat} {t : Str} : ∀ p ∈ offP a t, (a : Int) ≤ p.f0 := by
  intro p hp
  obtain ⟨q, hq, rfl⟩ := List.mem_map.1 hp
  have := eachGo_ge t a [] q hq
  show (a : Int) ≤ (q.1 : Int)
  omega
theorem txs_off (a : Nat) (t : Str) : txs (offP a t) = (split t).map fun p => mk (low p) := by
  unfold offP txs
  rw [List.map_map, split_sp, ← eachGo_sp t a [], List.map_map]; rfl
theorem off_ne (a : Nat) (t : Str) : offP a t ≠ [] := by
  intro h
  have := txs_off a t
  rw [h] at this
  have h2 := split_ne t
  cases hs : split t with
  | nil => exact h2 hs
  | cons p q => rw [hs] at this; cases this
theorem oneB_any {p : PieceR} {t : List PieceR} : oneB qAny (p :: t) = okB p.f1 := by
  cases c : okB p.f1 with
  | true => rw [oneB_ok c]
  | false =>
    unfold oneB
    have : ¬ (p.f1.size ≤ 8 ∧ Iso.alnum (bl p.f1) = true) := fun h => by
      unfold okB at c
      rw [decide_eq_true h.1, h.2] at c; cases c
    rw [hereB_cons, if_neg this]
    simp [Go.ByteArray.toList_eq]
theorem any_all {ps : List PieceR} (h : ∀ p ∈ ps, okB p.f1 = true) : rowL qAny ps = txs ps ∧ rowT qAny ps = [] := by
  have := rowL_app qAny ps [] (fun p hp => ⟨h p hp, rfl⟩) noneB_nil
  rwa [List.append_nil] at this
theorem any_not : ∀ {ps : List PieceR}, ¬ (∀ p ∈ ps, okB p.f1 = true) → ∃ p t, rowT qAny ps = p :: t ∧ p ∈ ps
  | [], h => absurd (fun p hp => by cases hp) h
  | p :: t, h => by
    cases c : okB p.f1 with
    | false =>
      refine ⟨p, t, ?_, List.mem_cons_self⟩
      rw [rowT, if_neg (by rw [oneB_any, c]; decide)]
    | true =>
      obtain ⟨q, u, e, hq⟩ := any_not (ps := t) (fun h2 => h (fun x hx => by
        rcases List.mem_cons.1 hx with rfl | hx
        · exact c
        · exact h2 x hx))
      refine ⟨q, u, ?_, List.mem_cons_of_mem _ hq⟩
      rw [rowT, if_pos (by rw [oneB_any, c]), e]
theorem tail_x {E : Int} {T : TG} {X : PieceR} {ps : List PieceR} {n : Int} (hX : bl (hereB (X :: ps)) = [120]) (hne : ps ≠ []) (hge : ∀ p ∈ ps, n ≤ p.f0) :
    ((∀ p ∈ ps, okB p.f1 = true) → tailR E T (X :: ps) = .good { T with priv := txs ps }) ∧ (¬ (∀ p ∈ ps, okB p.f1 = true) → ∃ a w, tailR E T (X :: ps) = .bad 10 a w ∧ n ≤ a) := by
  constructor
  · intro h
    obtain ⟨e1, e2⟩ := any_all h
    rw [tailR, if_pos hX, List.drop_one, List.tail_cons, e1, e2]
    rw [if_neg (by
      intro c
      rw [List.isEmpty_iff] at c
      exact hne (List.map_eq_nil_iff.1 c))]
    rfl
  · intro h
    obtain ⟨q, u, e, hq⟩ := any_not h
    rw [tailR, if_pos hX, List.drop_one, List.tail_cons]
    by_cases c : (rowL qAny ps).isEmpty = true
    · rw [if_pos c]
      cases ps with
      | nil => exact absurd rfl hne
      | cons p t => exact ⟨_, _, rfl, hge p List.mem_cons_self⟩
    · rw [if_neg c, e]
      exact ⟨_, _, rfl, hge q hq⟩
theorem okB_low (p : Str) : okB (mk (low p)) = isSub p := by
  unfold okB isSub Iso.alnum
  rw [bl_mk, cls_low, mk_size, low_length, Bool.and_comm]
theorem off_ok {a : Nat} {t : Str} : (∀ p ∈ offP a t, okB p.f1 = true) ↔ (split t).all isSub = true := by
  rw [List.all_eq_true]
  constructor
  · intro h p hp
    have hm : mk (low p) ∈ txs (offP a t) := by rw [txs_off]; exact List.mem_map_of_mem hp
    obtain ⟨q, hq, e⟩ := List.mem_map.1 hm
    have := h q hq
    rw [e, okB_low] at this; exact this
  · intro h p hp
    have hm : p.f1 ∈ txs (offP a t) := List.mem_map_of_mem hp
    rw [txs_off] at hm
    obtain ⟨q, hq, e⟩ := List.mem_map.1 hm
    rw [← e, okB_low]; exact h q hq
theorem not_grand {s : ByteArray} {p : Str} (hp : p ∈ split (low (bl s))) (hn : (nameL.all fun n => !(split (low n)).contains p) = true) : isGrand s = false := by
  cases c : isGrand s with
  | false => rfl
  | true =>
    exfalso
    unfold isGrand at c
    rw [Bool.and_eq_true, decide_eq_true_eq] at c
    obtain ⟨h1, h2⟩ := c
    unfold same at h2
    have e := of_decide_eq_true h2
    have hl : findI s < nameL.length := h1
    have hm : nameL.getD (findI s) [] ∈ nameL := by
      rw [List.getD_eq_getElem?_getD, List.getElem?_eq_getElem hl]
      exact List.getElem_mem hl
    have := List.all_eq_true.1 hn _ hm
    unfold nm at e
    rw [bl_mk] at e
    rw [e, Bool.not_eq_true', ← Bool.not_eq_true, List.contains_iff_mem] at this
    exact this hp
theorem bl_append (a b : ByteArray) : bl (a ++ b) = bl a ++ bl b := by
  have := mk_append (bl a) (bl b)
  rw [mk_bl, mk_bl] at this
  rw [this, bl_mk]
def subsOk (s : ByteArray) : Bool := (split (bl s)).all isSub
def privOf (s : ByteArray) : List ByteArray := (split (low (bl s))).map mk
theorem privOf_off (s : ByteArray) (a : Nat) : txs (offP a (bl s)) = privOf s := by
  rw [txs_off]
  unfold privOf
  rw [split_low, List.map_map]; rfl
theorem xP (a : Nat) (t : Str) : offP a (120 :: 45 :: t) = ⟨(a : Int), ⟨#[120]⟩⟩ :: offP (a + 2) t := by
  have := offP_append [120] t a
  rw [show ([120] : Str) ++ 45 :: t = 120 :: 45 :: t from rfl] at this
  rw [this]; rfl
theorem hereX (a : Int) (ps : List PieceR) : bl (hereB ((⟨a, ⟨#[120]⟩⟩ : PieceR) :: ps)) = [120] := by
  rw [hereB_ok (show okB ⟨#[120]⟩ = true by decide)]; rfl
theorem priv_one (s : ByteArray) : (subsOk s = true → parseR (⟨#[120, 45]⟩ ++ s) = .good { T0 with priv := privOf s }) ∧ (subsOk s = false → ∃ a w, parseR (⟨#[120, 45]⟩ ++ s) = .bad 10 a w ∧ 2 ≤ a) := by
  have eb : bl (⟨#[120, 45]⟩ ++ s) = 120 :: 45 :: bl s := by rw [bl_append]; rfl
  have hg : isGrand (⟨#[120, 45]⟩ ++ s) = false := not_grand (p := [120]) (by
    rw [eb, split_low, show (120 :: 45 :: bl s : Str) = [120] ++ 45 :: bl s from rfl, split_append, List.map_append]
    exact List.mem_append_left _ (by decide)) (by decide +kernel)
  have ht := tail_x (E := ((⟨#[120, 45]⟩ ++ s : ByteArray).size : Int)) (T := T0) (X := ⟨0, ⟨#[120]⟩⟩) (ps := offP 2 (bl s)) (n := 2) (hereX _ _) (off_ne _ _) (fun p hp => off_ge p hp)
  unfold parseR
  rw [hg, if_neg (by decide), piecesOf_off, eb, xP 0 (bl s), allR, if_pos (hereX _ _)]
  unfold subsOk
  refine ⟨fun h => ?_, fun h => ?_⟩
  · rw [show ((0 : Nat) : Int) = 0 from rfl, ht.1 (off_ok.2 h), privOf_off]
  · exact ht.2 (fun c => by rw [off_ok.1 c] at h; cases h)
theorem some1_opt (s : ByteArray) : some1 s = opt1 s := by
  unfold some1 opt1
  have : s.toList = ([] : List UInt8) ↔ s = ⟨#[]⟩ := by
    rw [Go.ByteArray.toList_eq]
    constructor
    · intro h
      exact bl_inj (show bl s = bl ⟨#[]⟩ from h)
    · intro h; rw [h]
  by_cases c : s = ⟨#[]⟩
  · rw [if_pos (this.2 c), if_pos c]
  · rw [if_neg (fun h => c (this.1 h)), if_neg c]
theorem subL_head {T : TG} (h : T.lang ≠ ⟨#[]⟩) : subL T.lang T.ext T.script T.region T.vars T.exts T.priv = headL T ++ (if T.priv = [] then [] else ⟨#[120]⟩ :: T.priv) := by
  unfold subL headL
  rw [some1_opt, some1_opt, some1_opt, show opt1 T.lang = [T.lang] from by unfold opt1; rw [if_neg h]]
  simp only [List.append_assoc, List.cons_append, List.nil_append]
def plainB (s : ByteArray) : Bool := decide (low (bl s) = bl s) && (bl s).all (fun c => decide (c ≠ 45))
theorem plainB_dash {s : ByteArray} (h : plainB s = true) : noDash (bl s) := by
  unfold plainB at h
  rw [Bool.and_eq_true] at h
  intro c hc
  exact of_decide_eq_true (List.all_eq_true.1 h.2 c hc)
theorem plainB_low {s : ByteArray} (h : plainB s = true) : low (bl s) = bl s := by
  unfold plainB at h
  rw [Bool.and_eq_true] at h
  exact of_decide_eq_true h.1
theorem txs_join {l : List ByteArray} (hne : l ≠ []) (h : ∀ s ∈ l, plainB s = true) (a : Nat) : txs (offP a (joinL (l.map bl))) = l := by
  rw [txs_off, split_joinL _ (fun e => hne (List.map_eq_nil_iff.1 e)) (fun p hp => by
    obtain ⟨s, hs, rfl⟩ := List.mem_map.1 hp
    exact plainB_dash (h s hs)), List.map_map]
  conv => rhs; rw [← List.map_id l]
  exact List.map_congr_left fun s hs => by
    show mk (low (bl s)) = s
    rw [plainB_low (h s hs), mk_bl]
theorem priv_two {T : TG} (hT : ShapeT T) (hp : T.priv = []) (hg : T.grand = ⟨#[]⟩) (hl : ∀ s ∈ headL T, plainB s = true) (s : ByteArray) :
    (subsOk s = true → parseR (mk (textT T) ++ ⟨#[45, 120, 45]⟩ ++ s) = .good { T with priv := privOf s }) ∧ (subsOk s = false → ∃ a w, parseR (mk (textT T) ++ ⟨#[45, 120, 45]⟩ ++ s) = .bad 10 a w) := by
  have hne : T.lang ≠ ⟨#[]⟩ := fun e => by
    have := hT.lang.2
    rw [e] at this
    revert this; decide
  have hsub : subsT T = headL T := by
    show subsL T.lang T.ext T.script T.region T.vars T.exts T.priv T.grand = _
    unfold subsL
    rw [hg, if_pos (by rw [Go.ByteArray.toList_eq]), subL_head hne, hp, if_pos rfl, List.append_nil]
  have eb : bl (mk (textT T) ++ ⟨#[45, 120, 45]⟩ ++ s) = textT T ++ 45 :: (120 :: 45 :: bl s) := by
    rw [bl_append, bl_append, bl_mk, show bl (⟨#[45, 120, 45]⟩ : ByteArray) = [45, 120, 45] from rfl, List.append_assoc]; rfl
  have hG : isGrand (mk (textT T) ++ ⟨#[45, 120, 45]⟩ ++ s) = false := not_grand (p := [120]) (by
    rw [eb, split_low, show (120 :: 45 :: bl s : Str) = [120] ++ 45 :: bl s from rfl, split_append, split_append, List.map_append, List.map_append]
    exact List.mem_append_right _ (List.mem_append_left _ (by decide))) (by decide +kernel)
  obtain ⟨n, hn⟩ : ∃ n, n = 0 + (textT T).length + 1 := ⟨_, rfl⟩
  have ht := tail_x (E := ((mk (textT T) ++ ⟨#[45, 120, 45]⟩ ++ s : ByteArray).size : Int)) (T := { T with priv := [], grand := ⟨#[]⟩ }) (X := ⟨(n : Int), ⟨#[120]⟩⟩) (ps := offP (n + 2) (bl s)) (n := ((n + 2 : Nat) : Int)) (hereX _ _) (off_ne _ _) (fun p hp => off_ge p hp)
  have hH : txs (offP 0 (textT T)) = headL T := by
    show txs (offP 0 (joinL ((subsT T).map bl))) = _
    rw [hsub]
    exact txs_join (by unfold headL; simp) hl 0
  unfold parseR
  rw [hG, if_neg (by decide), piecesOf_off, eb, offP_append, ← hn, xP n (bl s), all_head hT _ _ _ hH (.inr (hereX _ _))]
  unfold subsOk
  refine ⟨fun h => ?_, fun h => ?_⟩
  · rw [ht.1 (off_ok.2 h), privOf_off]
    show PRes.good { T with priv := privOf s, grand := ⟨#[]⟩ } = _
    rw [← hg]
  · obtain ⟨a, w, e, _⟩ := ht.2 (fun c => by rw [off_ok.1 c] at h; cases h)
    exact ⟨a, w, e⟩
end Go.Proofs.YtejnfbfikadpdaaGreatDoor.P
