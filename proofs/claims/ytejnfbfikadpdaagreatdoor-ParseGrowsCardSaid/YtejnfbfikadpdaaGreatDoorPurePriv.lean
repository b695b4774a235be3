/- What the parser makes of a text behind x: private subtags, whatever they are. Plain words. -/
import Derived.Test.YtejnfbfikadpdaaGreatDoorPx0
import Derived.Test.YtejnfbfikadpdaaGreatDoorPx6
import Derived.Test.YtejnfbfikadpdaaGreatDoorPx8
import Derived.Test.YtejnfbfikadpdaaGreatDoorPx12
import Derived.Test.YtejnfbfikadpdaaGreatDoorPureK1
import Derived.Test.YtejnfbfikadpdaaGreatDoorHandParse
import Derived.Test.YtejnfbfikadpdaaGreatDoorEvTxt
namespace Go.Proofs.YtejnfbfikadpdaaGreatDoor.P
open Go.RowKit Go.Proofs.YtejnfbfikadpdaaGreatDoorW.PrintWords Go.Proofs.YtejnfbfikadpdaaGreatDoorW.PrintLast Go.Proofs.YtejnfbfikadpdaaGreatDoorW.PrintMore
attribute [local go_sem] max2_int min2_int max_two min_two max_three min_three max_four min_four   -- for this text's walks alone
set_option linter.unusedVariables false
set_option linter.unusedSimpArgs false
def IsS137 (w0 W : World) (g : Nat) (f0 : List (S87)) (f1 : Int) (f2 : Int) : Prop := ∃ A0 c0, W.heap[g]? = some (.cells #[.slice A0 f0.length c0, .int .i64 f1, .int .i64 f2] 137 (0, 0)) ∧ w0.heap.size ≤ g ∧ Kd.C k87 w0 A0 f0.length f0
theorem IsS137.grown {w0 W : World} {g : Nat} {f0 : List (S87)} {f1 : Int} {f2 : Int} {W1 : World} {row : Option Nat} (h : IsS137 w0 W g f0 f1 f2) (hw : W.grownBy W1 row) (hne : some g ≠ row) : IsS137 w0 W1 g f0 f1 f2 := by
 obtain ⟨A0, c0, hb, hg, hr0⟩ := h
 exact ⟨A0, c0, blk_grown hb hw hne, hg, hr0⟩
theorem IsS137.kept {w0 W : World} {g : Nat} {f0 : List (S87)} {f1 : Int} {f2 : Int} {W1 : World} {S : Nat → Prop} (h : IsS137 w0 W g f0 f1 f2) (hk : Kept W W1 S) (hne : ¬ S g) : IsS137 w0 W1 g f0 f1 f2 := by
 obtain ⟨A0, c0, hb, hg, hr0⟩ := h
 exact ⟨A0, c0, blk_kept hb hk hne, hg, hr0⟩
theorem IsS137.below {w0 W : World} {g : Nat} {f0 : List (S87)} {f1 : Int} {f2 : Int} {W1 : World} (h : IsS137 w0 W g f0 f1 f2) (hw : Below W.heap.size W W1) : IsS137 w0 W1 g f0 f1 f2 := h.grown (grown_of_below hw none) (by simp)
theorem IsS137.alloc {w0 W : World} {g : Nat} {f0 : List (S87)} {f1 : Int} {f2 : Int} (h : IsS137 w0 W g f0 f1 f2) (o : Obj) : IsS137 w0 (W.alloc o) g f0 f1 f2 := h.below (below_alloc (Below.refl _ _) o)
theorem IsS137.drewN {w0 W : World} {g : Nat} {f0 : List (S87)} {f1 : Int} {f2 : Int} (h : IsS137 w0 W g f0 f1 f2) (m : Nat) : IsS137 w0 (W.drewN m) g f0 f1 f2 := h
theorem IsS137.drew {w0 W : World} {g : Nat} {f0 : List (S87)} {f1 : Int} {f2 : Int} (h : IsS137 w0 W g f0 f1 f2) : IsS137 w0 W.drew g f0 f1 f2 := h
theorem IsS137.at_ {w0 W : World} {g : Nat} {f0 : List (S87)} {f1 : Int} {f2 : Int} {w' : World} {m : Nat} (hq : W.drewN m = w') (h : IsS137 w0 W g f0 f1 f2) : IsS137 w0 w' g f0 f1 f2 := by subst hq; exact IsS137.drewN h m
theorem IsS137.apart {w0 W : World} {g : Nat} {f0 : List (S87)} {f1 : Int} {f2 : Int} {α : Type} {d : Kd α} {e : Nat} {base : Nat} {ok : Nat → Prop} {v : Value} {xs : List α} (h : IsS137 w0 W g f0 f1 f2) (ho : d.R e W base ok v xs) (ht : ∀ q, q ∈ e :: d.E → q ≠ 137) : d.R e W base (fun k => ok k ∧ k ≠ g) v xs := by
 obtain ⟨A0, c0, hb, hg, hr0⟩ := h
 exact Kd.R_types ho hb ht
theorem IsS137.own_ne {w0 W : World} {g : Nat} {f0 : List (S87)} {f1 : Int} {f2 : Int} {α : Type} {d : Kd α} {e : Nat} {base : Nat} {ok : Nat → Prop} {v : Value} {xs : List α} (h : IsS137 w0 W g f0 f1 f2) (ho : d.R e W base ok v xs) (ht : e ≠ 137) : some g ≠ v.ownBlock := by
 obtain ⟨A0, c0, hb, hg, hr0⟩ := h
 exact Kd.R_ne ho hb ht
theorem IsS137.lt {w0 W : World} {g : Nat} {f0 : List (S87)} {f1 : Int} {f2 : Int} (h : IsS137 w0 W g f0 f1 f2) : g < W.heap.size := by
 obtain ⟨A0, c0, hb, hg, hr0⟩ := h
 exact blk_lt hb
theorem IsS137.new (w0 W : World) (A0 : Option Addr) (c0 : Nat) (f0 : List (S87)) (f1 : Int) (f2 : Int) (hB : Below w0.heap.size w0 W) (hr0 : Kd.C k87 w0 A0 f0.length f0) : IsS137 w0 (W.alloc (.cells #[.slice A0 f0.length c0, .int .i64 f1, .int .i64 f2] 137)) W.heap.size f0 f1 f2 := ⟨A0, c0, by simpa using heap_alloc_new W _, hB.size, hr0⟩
end Go.Proofs.YtejnfbfikadpdaaGreatDoor.P
namespace Go.Proofs.YtejnfbfikadpdaaGreatDoor.P
open Go.RowKit Go.Proofs.YtejnfbfikadpdaaGreatDoorW.PrintWords Go.Proofs.YtejnfbfikadpdaaGreatDoor.Iso
set_option linter.unusedVariables false
set_option linter.unusedSimpArgs false
def offP (a : Nat) (t : Str) : List PieceR := (eachGo a [] t).map fun p => ⟨(p.1 : Int), mk (low p.2)⟩
theorem piecesOf_off (s : ByteArray) : piecesOf s = offP 0 (bl s) := by
  unfold piecesOf offP eachB each mkP
  rw [List.map_map]; rfl
theorem txs_off (a : Nat) (t : Str) : txs (offP a t) = (split t).map fun p => mk (low p) := by
  unfold offP txs
  rw [List.map_map, split_sp, ← eachGo_sp t a [], List.map_map]; rfl
theorem oneB_any {p : PieceR} {t : List PieceR} : oneB qAny (p :: t) = okB p.f1 := by
  cases c : okB p.f1 with
  | true => rw [oneB_ok c]
  | false =>
    unfold oneB
    have : ¬ (p.f1.size ≤ 8 ∧ Iso.alnum (bl p.f1) = true) := fun h => by
      unfold okB at c
      rw [decide_eq_true h.1, h.2] at c; cases c
    rw [hereB_cons, if_neg this]
    simp [Go.ByteArray.toList_eq]
theorem any_all {ps : List PieceR} (h : ∀ p ∈ ps, okB p.f1 = true) : rowL qAny ps = txs ps ∧ rowT qAny ps = [] := by
  have := rowL_app qAny ps [] (fun p hp => ⟨h p hp, rfl⟩) noneB_nil
  rwa [List.append_nil] at this
theorem any_not : ∀ {ps : List PieceR}, ¬ (∀ p ∈ ps, okB p.f1 = true) → ∃ p t, rowT qAny ps = p :: t ∧ p ∈ ps
  | [], h => absurd (fun p hp => by cases hp) h
  | p :: t, h => by
    cases c : okB p.f1 with
    | false =>
      refine ⟨p, t, ?_, List.mem_cons_self⟩
      rw [rowT, if_neg (by rw [oneB_any, c]; decide)]
    | true =>
      obtain ⟨q, u, e, hq⟩ := any_not (ps := t) (fun h2 => h (fun x hx => by
        rcases List.mem_cons.1 hx with rfl | hx
        · exact c
        · exact h2 x hx))
      refine ⟨q, u, ?_, List.mem_cons_of_mem _ hq⟩
      rw [rowT, if_pos (by rw [oneB_any, c]), e]
theorem tail_x {E : Int} {T : TG} {X : PieceR} {ps : List PieceR} {n : Int} (hX : bl (hereB (X :: ps)) = [120]) (hne : ps ≠ []) (hge : ∀ p ∈ ps, n ≤ p.f0) :
    ((∀ p ∈ ps, okB p.f1 = true) → tailR E T (X :: ps) = .good { T with priv := txs ps }) ∧ (¬ (∀ p ∈ ps, okB p.f1 = true) → ∃ a w, tailR E T (X :: ps) = .bad 10 a w ∧ n ≤ a) := by
  constructor
  · intro h
    obtain ⟨e1, e2⟩ := any_all h
    rw [tailR, if_pos hX, List.drop_one, List.tail_cons, e1, e2]
    rw [if_neg (by
      intro c
      rw [List.isEmpty_iff] at c
      exact hne (List.map_eq_nil_iff.1 c))]
    rfl
  · intro h
    obtain ⟨q, u, e, hq⟩ := any_not h
    rw [tailR, if_pos hX, List.drop_one, List.tail_cons]
    by_cases c : (rowL qAny ps).isEmpty = true
    · rw [if_pos c]
      cases ps with
      | nil => exact absurd rfl hne
      | cons p t => exact ⟨_, _, rfl, hge p List.mem_cons_self⟩
    · rw [if_neg c, e]
      exact ⟨_, _, rfl, hge q hq⟩
theorem not_grand {s : ByteArray} {p : Str} (hp : p ∈ split (low (bl s))) (hn : (nameL.all fun n => !(split (low n)).contains p) = true) : isGrand s = false := by
  cases c : isGrand s with
  | false => rfl
  | true =>
    exfalso
    unfold isGrand at c
    rw [Bool.and_eq_true, decide_eq_true_eq] at c
    obtain ⟨h1, h2⟩ := c
    unfold same at h2
    have e := of_decide_eq_true h2
    have hl : findI s < nameL.length := h1
    have hm : nameL.getD (findI s) [] ∈ nameL := by
      rw [List.getD_eq_getElem?_getD, List.getElem?_eq_getElem hl]
      exact List.getElem_mem hl
    have := List.all_eq_true.1 hn _ hm
    unfold nm at e
    rw [bl_mk] at e
    rw [e, Bool.not_eq_true', ← Bool.not_eq_true, List.contains_iff_mem] at this
    exact this hp
theorem some1_opt (s : ByteArray) : some1 s = opt1 s := by
  unfold some1 opt1
  have : s.toList = ([] : List UInt8) ↔ s = ⟨#[]⟩ := by
    rw [Go.ByteArray.toList_eq]
    constructor
    · intro h
      exact bl_inj (show bl s = bl ⟨#[]⟩ from h)
    · intro h; rw [h]
  by_cases c : s = ⟨#[]⟩
  · rw [if_pos (this.2 c), if_pos c]
  · rw [if_neg (fun h => c (this.1 h)), if_neg c]
theorem subL_head {T : TG} (h : T.lang ≠ ⟨#[]⟩) : subL T.lang T.ext T.script T.region T.vars T.exts T.priv = headL T ++ (if T.priv = [] then [] else ⟨#[120]⟩ :: T.priv) := by
  unfold subL headL
  rw [some1_opt, some1_opt, some1_opt, show opt1 T.lang = [T.lang] from by unfold opt1; rw [if_neg h]]
  simp only [List.append_assoc, List.cons_append, List.nil_append]
def plainB (s : ByteArray) : Bool := decide (low (bl s) = bl s) && (bl s).all (fun c => decide (c ≠ 45))
theorem plainB_dash {s : ByteArray} (h : plainB s = true) : noDash (bl s) := by
  unfold plainB at h
  rw [Bool.and_eq_true] at h
  intro c hc
  exact of_decide_eq_true (List.all_eq_true.1 h.2 c hc)
theorem plainB_low {s : ByteArray} (h : plainB s = true) : low (bl s) = bl s := by
  unfold plainB at h
  rw [Bool.and_eq_true] at h
  exact of_decide_eq_true h.1
theorem txs_join {l : List ByteArray} (hne : l ≠ []) (h : ∀ s ∈ l, plainB s = true) (a : Nat) : txs (offP a (joinL (l.map bl))) = l := by
  rw [txs_off, split_joinL _ (fun e => hne (List.map_eq_nil_iff.1 e)) (fun p hp => by
    obtain ⟨s, hs, rfl⟩ := List.mem_map.1 hp
    exact plainB_dash (h s hs)), List.map_map]
  conv => rhs; rw [← List.map_id l]
  exact List.map_congr_left fun s hs => by
    show mk (low (bl s)) = s
    rw [plainB_low (h s hs), mk_bl]
end Go.Proofs.YtejnfbfikadpdaaGreatDoor.P
