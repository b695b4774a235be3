/- The document's Parse: variants and extensions, walked. -/
import Derived.Test.YtojglflamecnkaaSq
import Derived.Test.YtojglflamecnkaaHandDo1
namespace Go.Proofs.Ytojglflamecnkaa.P
open Go.RowKit Go.Shelf Go.Proofs.YtojglflamecnkaaW.PrintWords Go.Proofs.YtojglflamecnkaaW.PrintLast Go.Proofs.YtojglflamecnkaaW.PrintMore Go.Proofs.Ytojglflamecnkaa.Iso
set_option linter.unusedVariables false
set_option linter.unusedSimpArgs false
attribute [local go_sem] Oper.semAt_some
set_option maxRecDepth 100000 in
set_option maxHeartbeats 16000000 in
theorem doc_mid (s : ByteArray) (w wl vp : World) (g h : Nat) (L : List P04) (hfew : L.length ≤ 1000000) (hn3 : wl.heap[w.heap.size]? = some (.cells z0Got 40 (0, 0))) (r : PRes) (wc : World) (x : ByteArray) (lx : List ByteArray) (sv rv : ByteArray) (pt p2 p3 : List PieceR) (u1 : Value) (D1 : Dc w wl vp wc g h L p3 s.size { T0 with lang := x, ext := lx, script := sv, region := rv } u1 (.slice none 0 0) (.slice none 0 0) (.slice none 0 0)) (hp2 : p2 = oneT qScr pt) (hsv : sv = oneV qScr pt) (hp3 : p3 = oneT qReg p2) (hrv : rv = oneV qReg p2) (hmd : midR s.size { T0 with lang := x, ext := lx } pt = r)
    (K2 : Act → World → Prop) (h2 : ∀ (u5 u6 u7 u8 u9 u10 u11 u12 u13 u14 u15 u16 u17 u18 u19 u20 u21 u22 u23 u24 u25 u26 u27 u28 u29 u30 u31 u32 u33 u34 u35 u36 u37 u38 u39 u40 u41 u42 u43 u44 u45 u46 u47 u48 u49 u50 u51 u52 u53 u54 u55 u56 u57 u58 u59 u60 u61 u62 u63 u64 u65 u66 u67 u68 u69 u70 u71 u72 u73 u74 u75 u76 u77 u78 u79 u80 u81 u82 u83 u84 u85 u86 u87 u88 u89 u90 u91 u92 u93 u94 u95 u96 u97 u98 u99 u100 u101 u102 u103 u104 u105 u106 u107 u108 u109 u110 u111 u112 u113 u114 u115 u116 u117 u118 u119 u120 u121 u122 u123 u124 u125 u126 u127 u128 u129 u130 u131 u132 u133 u134 u135 u136 u137 u138 u139 u140 u141 u142 u143 u144 u145 u146 u147 u148 u149 u150 u151 u152 u153 u154 u155 u156 u157 u158 u159 u160 u161 u162 u163 u164 u165 u166 u167 u168 u169 u170 u171 u172 u173 u174 u175 u176 u177 u178 u179 u180 u181 u182 u183 u184 u185 u186 u187 u188 u189 u190 u191 u192 u193 u194 u195 u196 u197 u198 u199 u200 u201 u202 u203 u204 u205 u206 u207 u208 u209 u210 u211 u212 u213 u214 : Value) (W : World) (ps : List PieceR) (T : TG) (v1 v4 v5 : Value), Dc w wl vp W g h L ps s.size T v1 v4 v5 (.slice none 0 0) → T.priv = [] → tailR s.size T ps = r → K2 (docAct s w g h u5 u6 u7 u8 u9 u10 u11 u12 u13 u14 u15 u16 u17 u18 u19 u20 u21 u22 u23 u24 u25 u26 u27 u28 u29 u30 u31 u32 u33 u34 u35 u36 u37 u38 u39 u40 u41 u42 u43 u44 u45 u46 u47 u48 u49 u50 u51 u52 u53 u54 u55 u56 u57 u58 u59 u60 u61 u62 u63 u64 u65 u66 u67 u68 u69 u70 u71 u72 u73 u74 u75 u76 u77 u78 u79 u80 u81 u82 u83 u84 u85 u86 u87 u88 u89 u90 u91 u92 u93 u94 u95 u96 u97 u98 u99 u100 u101 u102 u103 u104 u105 u106 u107 u108 u109 u110 u111 u112 u113 u114 u115 u116 u117 u118 u119 u120 u121 u122 u123 u124 u125 u126 u127 u128 u129 u130 u131 u132 u133 u134 u135 u136 u137 u138 u139 u140 u141 u142 u143 u144 u145 u146 u147 u148 u149 u150 u151 u152 u153 u154 u155 u156 u157 u158 u159 u160 u161 u162 u163 u164 u165 u166 u167 u168 u169 u170 u171 u172 u173 u174 u175 u176 u177 u178 u179 u180 u181 u182 u183 u184 u185 u186 u187 u188 u189 u190 u191 u192 u193 u194 u195 u196 u197 u198 u199 u200 u201 u202 u203 u204 u205 u206 u207 u208 u209 u210 u211 u212 u213 u214) W) (u5 u6 u7 u8 u9 u10 u11 u12 u13 u14 u15 u16 u17 u18 u19 u20 u21 u22 u23 u24 u25 u26 u27 u28 u29 u30 u31 u32 u33 u34 u35 u36 u37 u38 u39 u40 u41 u42 u43 u44 u45 u46 u47 u48 u49 u50 u51 u52 u53 u54 u55 u56 u57 u58 u59 u60 u61 u62 u63 u64 u65 u66 u67 u68 u69 u70 u71 u72 u73 u74 u75 u76 u77 u78 u79 u80 u81 u82 u83 u84 u85 u86 u87 u88 u89 u90 u91 u92 u93 u94 u95 u96 u97 u98 u99 u100 u101 u102 u103 u104 u105 u106 u107 u108 u109 u110 u111 u112 u113 u114 u115 u116 u117 u118 u119 u120 u121 u122 u123 u124 u125 u126 u127 u128 u129 u130 u131 u132 u133 u134 u135 u136 u137 u138 u139 u140 u141 u142 u143 u144 u145 u146 u147 u148 u149 u150 u151 u152 u153 u154 u155 u156 u157 u158 u159 u160 u161 u162 u163 u164 u165 u166 u167 u168 u169 u170 u171 u172 u173 u174 u175 u176 u177 u178 u179 u180 u181 u182 u183 u184 u185 u186 u187 u188 u189 u190 u191 u192 u193 u194 u195 u196 u197 u198 u199 u200 u201 u202 u203 u204 u205 u206 u207 u208 u209 u210 u211 u212 u213 u214 : Value) :
    Code.wp Try.prog docMid (Exit.then K2 (docQ w r)) (docAct s w g h u5 u6 u7 u8 u9 u10 u11 u12 u13 u14 u15 u16 u17 u18 u19 u20 u21 u22 u23 u24 u25 u26 u27 u28 u29 u30 u31 u32 u33 u34 u35 u36 u37 u38 u39 u40 u41 u42 u43 u44 u45 u46 u47 u48 u49 u50 u51 u52 u53 u54 u55 u56 u57 u58 u59 u60 u61 u62 u63 u64 u65 u66 u67 u68 u69 u70 u71 u72 u73 u74 u75 u76 u77 u78 u79 u80 u81 u82 u83 u84 u85 u86 u87 u88 u89 u90 u91 u92 u93 u94 u95 u96 u97 u98 u99 u100 u101 u102 u103 u104 u105 u106 u107 u108 u109 u110 u111 u112 u113 u114 u115 u116 u117 u118 u119 u120 u121 u122 u123 u124 u125 u126 u127 u128 u129 u130 u131 u132 u133 u134 u135 u136 u137 u138 u139 u140 u141 u142 u143 u144 u145 u146 u147 u148 u149 u150 u151 u152 u153 u154 u155 u156 u157 u158 u159 u160 u161 u162 u163 u164 u165 u166 u167 u168 u169 u170 u171 u172 u173 u174 u175 u176 u177 u178 u179 u180 u181 u182 u183 u184 u185 u186 u187 u188 u189 u190 u191 u192 u193 u194 u195 u196 u197 u198 u199 u200 u201 u202 u203 u204 u205 u206 u207 u208 u209 u210 u211 u212 u213 u214) wc := by
  have HF := Lib.hid hfew
  have HN3 := Lib.hid hn3
  have HMD := Lib.hid hmd
  have Hp2 := Lib.hid hp2
  have Hp3 := Lib.hid hp3
  have Hsv := Lib.hid hsv
  have Hrv := Lib.hid hrv
  have H2 := Lib.hid h2
  replace D1 := Lib.hid D1
  clear hfew hn3 hmd hp2 hp3 hsv hrv h2
  have e : docMid = docMid := rfl
  conv at e => rhs; unfold docMid docThen docBody Try.f18; dsimp only [cR, cL, cT, Option.getD]
  rw [e]
  clear e
  unfold docAct docQ
  dsimp only
  have h0 := HMD.out
  rw [midR_eq Hp2.out Hp3.out Hsv.out Hrv.out] at h0
  have HM2 := Lib.hid h0
  clear h0 HMD Hp2 Hp3 Hsv Hrv
  obtain ⟨T2, hT2⟩ : ∃ T : TG, T = { T0 with lang := x, ext := lx, script := sv, region := rv } := ⟨_, rfl⟩
  have HT2 := Lib.hid hT2
  rw [show ({ T0 with lang := x, ext := lx, script := sv, region := rv } : TG) = { T2 with vars := [] } from by rw [hT2]; rfl] at D1
  clear hT2
  have HLN := Lib.hid (show p3.length ≤ 1000000 from Nat.le_trans D1.out.dr.len HF.out)
  go_upto_block 2 with (fail)
  go_cut [] (fun wc => ∃ u : Value, Hid (Dc w wl vp wc g h L (varR [] p3).2.1 s.size { T2 with vars := (varR [] p3).1 } u1 u (.slice none 0 0) (.slice none 0 0)) ∧ Hid ((varR [] p3).2.2 = false))
  case first =>
    go_wp2_with (fail)
    go_loopw [8] (fun v8 wr => ∃ (ps' : List PieceR) (acc : List ByteArray) (u : Value), Hid (DVa w wl vp wr g h L p3 ps' s.size T2 u1 u acc)) (fun _ wr => leftD wr g L.length)
    case atStart => exact ⟨p3, [], _, Lib.hid ⟨D1.out, rfl, by simp⟩⟩
    case round =>
      obtain ⟨ps', acc, u, hR⟩ := hrel
      clear D1
      have D1 := Lib.hid hR.out.dc
      obtain ⟨A, d, hu⟩ := Kd.R_slice D1.out.own.2.1
      replace hu : u = .slice A acc.length d := hu
      subst hu
      obtain ⟨y, hy⟩ : ∃ y, y = hereB ps' := ⟨_, rfl⟩
      have SY := Lib.hid hy
      have KF := Lib.hid (fun W : World => var06 y (by rw [hy]; exact here_size ps') W)
      have HAC := Lib.hid (show acc.length ≤ 1000000 from by have := hR.out.n; have := HLN.out; omega)
      by_cases cv : Iso.isVar (bl y) = true
      · obtain ⟨p', t', hps'⟩ := q_cons (q := qVar) (by decide) (show qVar (hereB ps') = true from by rw [← SY.out]; exact cv)
        have HP' := Lib.hid hps'
        rw [cv] at KF
        have CV := Lib.hid (show Iso.isVar (bl (hereB ps')) = true from by rw [← SY.out]; exact cv)
        clear cv hps' hy
        go_wp2_with (first | (go_at_call 50; refine (here07_calls D1.out.dr).mono ?_; rw [← SY.out]; rintro e w2 ⟨rfl, hb⟩; dsimp only; have D2 := Lib.hid (D1.out.step hb); clear hb D1) | (go_at_call 52; refine (KF.out _).mono ?_; rintro e w3 ⟨rfl, hb⟩; dsimp only; have D3 := Lib.hid (D2.out.step hb); clear hb D2))
        go_loopw [8] (fun v8 wr => ∃ j : Nat, v8 = .int .i64 (j : Int) ∧ Hid (Dc w wl vp wr g h L ps' s.size { T2 with vars := acc } u1 (.slice A acc.length d) (.slice none 0 0) (.slice none 0 0)) ∧ Hid (∀ i, i < j → ∀ a, acc[i]? = some a → ¬ a = y) ∧ Hid (j ≤ acc.length)) (fun v8 _ => acc.length - (intOf v8).toNat)
        case atStart => exact ⟨0, rfl, D3, Lib.hid (fun i hi => absurd hi (Nat.not_lt_zero _)), Lib.hid (Nat.zero_le _)⟩
        case round =>
          obtain ⟨j, rfl, hD, hn, hj⟩ := hrel
          clear D3
          have D4 := hD
          clear hD
          have w1 : wrap64 ((j : Int) + 1) = (j : Int) + 1 := by have := HAC.out; have := hj.out; unfold wrap64; omega
          by_cases hlt : j < acc.length
          · have q1 : decide ((j : Int) < (acc.length : Int)) = true := decide_eq_true (by omega)
            have q2 : (j : Int) < (acc.length : Int) := by omega
            have q3 : (0 : Int) ≤ (j : Int) := by omega
            obtain ⟨ad, ea, xa⟩ := Kd.at_string ((Kd.R_reads' D4.out.own.2.1).2.2) (j : Int) q3 q2
            subst ea
            have hav : acc[j]? = some acc[j] := List.getElem?_eq_getElem hlt
            rw [show rdOf ByteArray.empty acc (j : Int) = acc[j] from by unfold rdOf; rw [Int.toNat_natCast, List.getD_eq_getElem?_getD, hav]; rfl, Int.toNat_natCast] at xa
            obtain ⟨av, hv⟩ : ∃ a, a = acc[j] := ⟨_, rfl⟩
            rw [← hv] at xa hav
            have HAV := Lib.hid hav
            clear hv hav
            have HLT := Lib.hid hlt
            clear hlt
            have e4 : wr.cell? ⟨h, 4, none⟩ = some (.slice (some ad) acc.length d) := (blk_cell D4.out.tg 4).trans rfl
            go_upto_region 26 with (fail)
            refine start_ (n := 8) (S := fun w' => w'.cell? ⟨h, 4, none⟩ = some (.slice (some ad) acc.length d) ∧ w'.cell? (ad.add j) = some (.string av)) (ds := []) #[false, false, false, false, false, false, false, false] (by kernel_rfl) rfl rfl ⟨(show World.cell? _ ⟨h, 4, none⟩ = some _ from (blk_cell D4.out.tg 4).trans rfl), xa⟩ (fun hHeld => ?_); refine with_tabW dp26_tab dp26_bits (fun HT_ HW_ => ?_)
            refine pu_ (i := 0) (N := some 112) HT_ (bl_ 8 1) ?_
            refine tk_ (i := 1) (N := some 113) HT_ HW_ (bl_ 8 3) hHeld ?_ (hy := by rintro w' ⟨s0, s1⟩; go_simp; with_reducible rfl)
            refine pu_ (i := 2) (N := some 114) HT_ (bl_ 8 7) ?_
            refine pu_ (i := 3) (N := some 115) HT_ (bl_ 8 15) ?_
            refine tk_ (i := 4) (N := some 116) HT_ HW_ (bl_ 8 31) hHeld ?_ (hy := by rintro w' ⟨s0, s1⟩; go_simp; with_reducible rfl)
            refine pu_ (i := 5) (N := some 117) HT_ (bl_ 8 63) ?_
            refine on_ (i := 6) (N := some 118) HT_ (bl_ 8 127) rfl rfl (fun K hK => ?_)
            refine gs_ Try.func50 #[.pointer (some ⟨g, 0, none⟩)] ?_
            refine (here07_calls (Dc.step D4.out (below_drew (Below.refl _ _))).dr).mono ?_
            rw [← SY.out]
            rintro e w5 ⟨rfl, hb⟩
            have D5 := Lib.hid ((Dc.step D4.out (below_drew (Below.refl _ _))).step hb)
            have xb : World.cell? w5 (ad.add j) = some (.string av) := pw_cell_below hb xa
            clear hb
            refine ⟨_, rfl, ?_⟩
            refine hK.out _ _ ⟨(show World.cell? _ ⟨h, 4, none⟩ = some _ from (blk_cell D5.out.tg 4).trans rfl), xb⟩ (fun hHeld => ?_)
            clear hK K
            refine nm_ (some 118) ?_
            refine pu_ (i := 7) (N := some 119) HT_ (bl_ 8 255) ?_
            refine done_ (done_of HT_.out (by kernel_rfl)) ?_
            clear D4 xa xb e4
            by_cases e : av = y
            · have he : (av.toList == y.toList) = true := by rw [e]; exact beq_self_eq_true _
              rw [he]
              have hm : bl (hereB ps') ∈ acc.map bl := by
                rw [← SY.out, ← e]
                exact List.mem_map_of_mem (List.mem_of_getElem? HAV.out)
              have h0 := HM2.out
              rw [hR.out.v, varR_dup HP'.out CV.out hm] at h0
              have HBAD := Lib.hid (show r = .bad 11 p'.f0 ⟨#[118, 97, 114, 105, 97, 110, 116]⟩ from by rw [← h0, HP'.out]; rfl)
              clear h0 hm he e q1 q2 q3 w1
              go_wp2_with (go_at_call 53; refine (twice07_calls D5.out.dr HP'.out _).mono ?_; rintro e w6 ⟨rfl, hb⟩; dsimp only; have D6 := Lib.hid (D5.out.step hb); obtain ⟨⟨k0, k1, k2, k3, k4, k5, k6, k7, k8, k9, k10⟩, ⟨f0, f1, f2, f3, f4, f5, f6, f7, f8, f9, f10⟩⟩ := cells11p (blk_on HN3.out D6.out.dr.blw); clear hb D5)
              exact doc_bad D6.out HN3.out 11 p'.f0 _ HBAD.out rfl
            · have he : (av.toList == y.toList) = false := beq_eq_false_iff_ne.2 (fun h => e (ba_inj6 h))
              rw [he]
              go_wp2
              refine ⟨⟨j + 1, congrArg (Value.int .i64) (by omega), D5, Lib.hid (fun i hi a ha => ?_), Lib.hid (by have := HLT.out; omega)⟩, ?_⟩
              · by_cases hc : i = j
                · subst hc
                  rw [HAV.out] at ha
                  rw [← Option.some.inj ha]; exact e
                · exact hn.out i (by omega) a ha
              · rw [w1]
                show acc.length - ((j : Int) + 1).toNat < acc.length - (j : Int).toNat
                have := HLT.out
                omega
          · obtain rfl : j = acc.length := by have := hj.out; omega
            have q1 : decide ((acc.length : Int) < (acc.length : Int)) = false := decide_eq_false (by omega)
            have ND := Lib.hid (show ¬ bl (hereB ps') ∈ acc.map bl from fun hm => by
              obtain ⟨a, h1, h2⟩ := List.mem_map.1 hm
              rw [← SY.out] at h2
              obtain ⟨i, hi, e⟩ := List.mem_iff_getElem.1 h1
              exact hn.out i hi a (by rw [← e]; exact List.getElem?_eq_getElem hi) (bl_inj h2))
            obtain ⟨y2, hy2⟩ : ∃ l, l = acc ++ [y] := ⟨_, rfl⟩
            have HY := Lib.hid hy2
            have e4 : wr.cell? ⟨h, 4, none⟩ = some (.slice A acc.length d) := (blk_cell D4.out.tg 4).trans rfl
            clear hy2 hlt hn hj w1
            go_upto_region 28 with (fail)
            clear e4 q1
            refine start_ (n := 8) (S := fun w' => w'.cell? ⟨h, 4, none⟩ = some (.slice A acc.length d)) (ds := [7]) #[false, false, false, false, false, false, false, false] (by kernel_rfl) rfl rfl (show World.cell? _ ⟨h, 4, none⟩ = some _ from (blk_cell D4.out.tg 4).trans rfl) (fun hHeld => ?_); refine with_tabW dp28_tab dp28_bits (fun HT_ HW_ => ?_)
            refine pu_ (i := 0) (N := some 122) HT_ (bl_ 8 1) ?_
            refine tk_ (i := 1) (N := some 123) HT_ HW_ (bl_ 8 3) hHeld ?_ (hy := by rintro w' s0; go_simp; with_reducible rfl)
            refine pu_ (i := 2) (N := some 124) HT_ (bl_ 8 7) ?_
            refine on_ (i := 3) (N := some 125) HT_ (bl_ 8 15) rfl rfl (fun K hK => ?_)
            refine gs_ Try.func50 #[.pointer (some ⟨g, 0, none⟩)] ?_
            refine (here07_calls (Dc.step D4.out (below_drew (Below.refl _ _))).dr).mono ?_
            rw [← SY.out]
            rintro e wa ⟨rfl, hb⟩
            have Da := Lib.hid ((Dc.step D4.out (below_drew (Below.refl _ _))).step hb)
            clear hb D4
            refine ⟨_, rfl, ?_⟩
            refine hK.out _ _ (show World.cell? _ ⟨h, 4, none⟩ = some _ from (blk_cell Da.out.tg 4).trans rfl) (fun hHeld => ?_)
            clear hK K
            refine nm_ (some 125) ?_
            refine on_ (i := 4) (N := some 126) HT_ (bl_ 8 31) rfl rfl (fun K hK => ?_)
            refine value_ (w1 := ?_) (v := ?_) (by rfl) rfl ?_ ?_
            rotate_left 2
            · go_simp
              constructor
              · rfl
              · rfl
            refine hK.out _ _ (show World.cell? _ ⟨h, 4, none⟩ = some _ from (blk_cell (blk_on Da.out.tg (below_alloc (Below.refl _ _) _)) 4).trans rfl) (fun hHeld => ?_)
            clear hK K
            refine nm_ (some 126) ?_
            refine on_ (i := 5) (N := some 127) HT_ (bl_ 8 63) rfl rfl (fun K hK => ?_)
            (refine Kd.R_append_step Kd.string (w0 := wa) vp.heap.size (by rfl) (.tmp 123) (.tmp 126) 25 9 (.string ⟨#[]⟩) 16 rfl Try.underlying25 info9 rfl (by decide) (by decide) (.slice A acc.length d) acc y [.string y] (fun k_ => some k_ ≠ u1.ownBlock ∧ some k_ ≠ (.slice none 0 0 : Value).ownBlock) (fun _ => False) rfl ?aX rfl (fun _ hk => hk.elim) (fun k hk => Da.out.own.fresh4 k hk) Da.out.own.2.1 (Below.refl _ _) ?aS ?aL ?_; (case aX => rfl); (case aS => exact Da.out.size); (case aL => have := HAC.out; omega); intro x_ wb hr_ hb_ hg_ hat_; rw [← HY.out] at hr_; obtain ⟨A', d', hx_⟩ := Kd.R_slice hr_; subst hx_; have HR3 := Lib.hid hr_; have HB3 := Lib.hid hb_; have HG3 := Lib.hid hg_; have HA3 := Lib.hid hat_; have z3 : World.cell? _ ⟨h, 4, none⟩ = some _ := (blk_cell ((hb_.block h Da.out.hp).trans Da.out.tg) 4).trans rfl; have f3 := blk_frozen ((hb_.block h Da.out.hp).trans Da.out.tg) 4; clear hr_ hb_ hg_ hat_)
            refine hK.out _ _ z3 (fun hHeld => ?_)
            clear hK K
            refine nm_ (some 127) ?_
            refine pu_ (i := 6) (N := some 128) HT_ (bl_ 8 127) ?_
            refine last_ (i := 7) (N := none) #[true, true, true, true, true, true, true, true] rfl rfl (one_of HT_.out (by kernel_rfl)) (by decide) (fun K hK => ?_)
            refine skip_ (w1 := ?_) (by rfl) rfl ?_ ?_
            rotate_left
            · go_simp
              rfl
            refine hK.out _ _ ?_
            clear hK K
            refine done_ (done_of HT_.out (by kernel_rfl)) ?_
            obtain ⟨V7, hV7⟩ : ∃ V, V = wb.setCell ⟨h, 4, none⟩ (.slice A' y2.length d') := ⟨_, rfl⟩
            rw [← hV7]
            have D7 := Lib.hid (show Dc w wl vp V7 g h L ps' s.size { T2 with vars := y2 } u1 (.slice A' y2.length d') (.slice none 0 0) (.slice none 0 0) from by rw [hV7]; exact Da.out.app4 HB3.out HG3.out HA3.out HR3.out)
            clear hV7 Da HB3 HG3 HA3 HR3 z3 f3
            obtain ⟨A7, c7, i7, gi7, -, -, li7, -⟩ := D7.out.dr.rd
            have GI7 := Lib.hid gi7
            have z7 : World.cell? V7 ⟨g, 1, none⟩ = some (.int .i64 (i7 : Int)) := (blk_cell gi7 1).trans rfl
            have f7 := blk_frozen gi7 1
            have y7 : wrap64 ((i7 : Int) + 1) = (i7 : Int) + 1 := by have := D7.out.dr.few; unfold wrap64; omega
            clear gi7 li7
            go_wp2
            have st := dc_next D7.out HP'.out GI7.out
            have vn := varR_new HP'.out CV.out ND.out
            rw [← SY.out] at vn
            refine ⟨⟨t', y2, _, Lib.hid ⟨st, by rw [hR.out.v, vn, HY.out], by have := hR.out.n; rw [HP'.out, List.length_cons] at this; rw [HY.out, List.length_append, List.length_singleton]; omega⟩⟩, ?_⟩
            rw [st.dr.left, hR.out.dc.dr.left, HP'.out]
            exact Nat.lt_succ_self _
      · have cf : Iso.isVar (bl y) = false := by simpa using cv
        rw [cf] at KF
        have vn := varR_no (acc := acc) ((one_q (q := fun s => Iso.isVar (bl s)) (by decide)).trans (show Iso.isVar (bl (hereB ps')) = false from by rw [← SY.out]; exact cf))
        have ve := hR.out.v.trans vn
        have VE := Lib.hid ve
        clear cv cf vn ve hy
        go_wp2_with (first | (go_at_call 50; refine (here07_calls D1.out.dr).mono ?_; rw [← SY.out]; rintro e w2 ⟨rfl, hb⟩; dsimp only; have D2 := Lib.hid (D1.out.step hb); clear hb D1) | (go_at_call 52; refine (KF.out _).mono ?_; rintro e w3 ⟨rfl, hb⟩; dsimp only; have D3 := Lib.hid (D2.out.step hb); clear hb D2))
        go_meet
        case rel =>
          rw [VE.out]
          exact ⟨_, D3, Lib.hid rfl⟩
  case rest =>
    obtain ⟨u4, D1, HVF⟩ := hcut
    have h0 := HM2.out
    rw [HVF.out, if_neg (by decide)] at h0
    obtain ⟨va, hva⟩ : ∃ l, l = (varR [] p3).1 := ⟨_, rfl⟩
    obtain ⟨p4, hp4⟩ : ∃ l, l = (varR [] p3).2.1 := ⟨_, rfl⟩
    rw [← hva, ← hp4] at h0 D1
    obtain ⟨T3, hT3⟩ : ∃ T : TG, T = { T2 with vars := va } := ⟨_, rfl⟩
    have HM3 := Lib.hid (show (if (exR p4).2.2 = 1 then PRes.bad 11 (atOf (exR p4).2.1) ⟨#[115, 105, 110, 103, 108, 101, 116, 111, 110]⟩ else if (exR p4).2.2 = 2 then .bad 10 (stopE s.size (exR p4).2.1).1 (stopE s.size (exR p4).2.1).2 else tailR s.size { T3 with exts := (exR p4).1 } (exR p4).2.1) = r from by rw [← h0, hT3, HT2.out])
    have HP3 := Lib.hid (show T3.priv = [] from by rw [hT3, HT2.out]; rfl)
    rw [show ({ T2 with vars := va } : TG) = { T3 with exts := [] } from by rw [hT3, HT2.out]; rfl] at D1
    have HLN := Lib.hid (show p4.length ≤ 1000000 from Nat.le_trans D1.out.dr.len HF.out)
    clear h0 HM2 HVF hva hp4 hT3 HT2
    go_wp2_with (fail)
    go_loopw [9] (fun v9 wr => ∃ (n : Nat) (ps' : List PieceR) (acc : List S62) (u : Value), Hid (DEx w wl vp wr g h n L p4 ps' s.size T3 u1 u4 u acc)) (fun _ wr => leftD wr g L.length)
    case atStart => exact ⟨p4.length, p4, [], _, Lib.hid ⟨D1.out, rfl, Nat.le_refl _, by simp⟩⟩
    case round =>
      obtain ⟨n, ps', acc, u, hR⟩ := hrel
      clear D1
      have D1 := Lib.hid hR.out.dc
      obtain ⟨A, d, hu⟩ := Kd.S_slice D1.out.own.2.2.1
      replace hu : u = .slice A acc.length d := hu
      subst hu
      obtain ⟨y, hy⟩ : ∃ y, y = hereB ps' := ⟨_, rfl⟩
      have SY := Lib.hid hy
      have KF := Lib.hid (fun W : World => sing06 y (by rw [hy]; exact here_size ps') W)
      have HAC := Lib.hid (show acc.length ≤ 1000000 from by have := hR.out.n; have := HLN.out; omega)
      by_cases cv : isSi y = true
      · obtain ⟨p', t', hps'⟩ := q_cons (q := isSi) (by decide) (show isSi (hereB ps') = true from by rw [← SY.out]; exact cv)
        have HP' := Lib.hid hps'
        rw [cv] at KF
        have CV := Lib.hid (show isSi (hereB ps') = true from by rw [← SY.out]; exact cv)
        obtain ⟨m, hm⟩ : ∃ m, n = m + 1 := ⟨n - 1, by have := hR.out.k; rw [hps', List.length_cons] at this; omega⟩
        subst hm
        clear cv hps' hy
        go_wp2_with (first | (go_at_call 50; refine (here07_calls D1.out.dr).mono ?_; rw [← SY.out]; rintro e w2 ⟨rfl, hb⟩; dsimp only; have D2 := Lib.hid (D1.out.step hb); clear hb D1) | (go_at_call 54; refine (KF.out _).mono ?_; rintro e w3 ⟨rfl, hb⟩; dsimp only; have D3 := Lib.hid (D2.out.step hb); clear hb D2))
        go_loopw [9] (fun v9 wr => ∃ j : Nat, v9 = .int .i64 (j : Int) ∧ Hid (Dc w wl vp wr g h L ps' s.size { T3 with exts := acc } u1 u4 (.slice A acc.length d) (.slice none 0 0)) ∧ Hid (∀ i, i < j → ∀ a, acc[i]? = some a → ¬ a.f0 = y) ∧ Hid (j ≤ acc.length)) (fun v9 _ => acc.length - (intOf v9).toNat)
        case atStart => exact ⟨0, rfl, D3, Lib.hid (fun i hi => absurd hi (Nat.not_lt_zero _)), Lib.hid (Nat.zero_le _)⟩
        case round =>
          obtain ⟨j, rfl, hD, hn, hj⟩ := hrel
          clear D3
          have D4 := hD
          clear hD
          have w1 : wrap64 ((j : Int) + 1) = (j : Int) + 1 := by have := HAC.out; have := hj.out; unfold wrap64; omega
          by_cases hlt : j < acc.length
          · have q1 : decide ((j : Int) < (acc.length : Int)) = true := decide_eq_true (by omega)
            have q2 : (j : Int) < (acc.length : Int) := by omega
            have q3 : (0 : Int) ≤ (j : Int) := by omega
            obtain ⟨ad, A1, c1, ea, xa, -, -, -⟩ := at_T62 ((Kd.S_reads' D4.out.own.2.2.1).2.2) (j : Int) q3 q2
            subst ea
            have hav : acc[j]? = some acc[j] := List.getElem?_eq_getElem hlt
            rw [show rd_T62 acc (j : Int) = acc[j] from getR acc j hlt, Int.toNat_natCast] at xa
            obtain ⟨ax, hx⟩ : ∃ a, a = acc[j] := ⟨_, rfl⟩
            obtain ⟨av, hv⟩ : ∃ a, a = ax.f0 := ⟨_, rfl⟩
            rw [← hx, ← hv] at xa
            rw [← hx] at hav
            have HAV := Lib.hid hav
            have HV := Lib.hid hv
            clear hv hav hx
            have HLT := Lib.hid hlt
            clear hlt
            have e5 : wr.cell? ⟨h, 5, none⟩ = some (.slice (some ad) acc.length d) := (blk_cell D4.out.tg 5).trans rfl
            go_upto_region 34 with (fail)
            refine start_ (n := 9) (S := fun w' => w'.cell? ⟨h, 5, none⟩ = some (.slice (some ad) acc.length d) ∧ w'.cell? (ad.add (j * 2)) = some (.string av)) (ds := []) #[false, false, false, false, false, false, false, false, false] (by kernel_rfl) rfl rfl ⟨(show World.cell? _ ⟨h, 5, none⟩ = some _ from (blk_cell D4.out.tg 5).trans rfl), xa⟩ (fun hHeld => ?_); refine with_tabW dp34_tab dp34_bits (fun HT_ HW_ => ?_)
            refine pu_ (i := 0) (N := some 146) HT_ (bl_ 9 1) ?_
            refine tk_ (i := 1) (N := some 147) HT_ HW_ (bl_ 9 3) hHeld ?_ (hy := by rintro w' ⟨s0, s1⟩; go_simp; with_reducible rfl)
            refine pu_ (i := 2) (N := some 148) HT_ (bl_ 9 7) ?_
            refine pu_ (i := 3) (N := some 149) HT_ (bl_ 9 15) ?_
            refine pu_ (i := 4) (N := some 150) HT_ (bl_ 9 31) ?_
            refine tk_ (i := 5) (N := some 151) HT_ HW_ (bl_ 9 63) hHeld ?_ (hy := by rintro w' ⟨s0, s1⟩; go_simp; with_reducible rfl)
            refine pu_ (i := 6) (N := some 152) HT_ (bl_ 9 127) ?_
            refine on_ (i := 7) (N := some 153) HT_ (bl_ 9 255) rfl rfl (fun K hK => ?_)
            refine gs_ Try.func50 #[.pointer (some ⟨g, 0, none⟩)] ?_
            refine (here07_calls (Dc.step D4.out (below_drew (Below.refl _ _))).dr).mono ?_
            rw [← SY.out]
            rintro e w5 ⟨rfl, hb⟩
            have D5 := Lib.hid ((Dc.step D4.out (below_drew (Below.refl _ _))).step hb)
            have xb : World.cell? w5 (ad.add (j * 2)) = some (.string av) := pw_cell_below hb xa
            clear hb
            refine ⟨_, rfl, ?_⟩
            refine hK.out _ _ ⟨(show World.cell? _ ⟨h, 5, none⟩ = some _ from (blk_cell D5.out.tg 5).trans rfl), xb⟩ (fun hHeld => ?_)
            clear hK K
            refine nm_ (some 153) ?_
            refine pu_ (i := 8) (N := some 154) HT_ (bl_ 9 511) ?_
            refine done_ (done_of HT_.out (by kernel_rfl)) ?_
            clear D4 xa xb e5
            by_cases e : av = y
            · have he : (av.toList == y.toList) = true := by rw [e]; exact beq_self_eq_true _
              rw [he]
              have hm : bl (hereB ps') ∈ keysOf acc := by
                rw [← SY.out, ← e, HV.out]
                exact List.mem_map_of_mem (List.mem_of_getElem? HAV.out)
              have h0 := HM3.out
              rw [hR.out.x, extF_dup HP'.out CV.out hm, if_pos rfl] at h0
              have HBAD := Lib.hid (show r = .bad 11 p'.f0 ⟨#[115, 105, 110, 103, 108, 101, 116, 111, 110]⟩ from by rw [← h0, HP'.out]; rfl)
              clear h0 hm he e q1 q2 q3 w1
              go_wp2_with (go_at_call 53; refine (twice07_calls D5.out.dr HP'.out _).mono ?_; rintro e w6 ⟨rfl, hb⟩; dsimp only; have D6 := Lib.hid (D5.out.step hb); obtain ⟨⟨k0, k1, k2, k3, k4, k5, k6, k7, k8, k9, k10⟩, ⟨f0, f1, f2, f3, f4, f5, f6, f7, f8, f9, f10⟩⟩ := cells11p (blk_on HN3.out D6.out.dr.blw); clear hb D5)
              exact doc_bad D6.out HN3.out 11 p'.f0 _ HBAD.out rfl
            · have he : (av.toList == y.toList) = false := beq_eq_false_iff_ne.2 (fun h => e (ba_inj6 h))
              rw [he]
              go_wp2
              refine ⟨⟨j + 1, congrArg (Value.int .i64) (by omega), D5, Lib.hid (fun i hi a ha => ?_), Lib.hid (by have := HLT.out; omega)⟩, ?_⟩
              · by_cases hc : i = j
                · subst hc
                  rw [HAV.out] at ha
                  rw [← Option.some.inj ha, ← HV.out]; exact e
                · exact hn.out i (by omega) a ha
              · rw [w1]
                show acc.length - ((j : Int) + 1).toNat < acc.length - (j : Int).toNat
                have := HLT.out
                omega
          · obtain rfl : j = acc.length := by have := hj.out; omega
            have q1 : decide ((acc.length : Int) < (acc.length : Int)) = false := decide_eq_false (by omega)
            have ND := Lib.hid (show ¬ bl (hereB ps') ∈ keysOf acc from fun hm => by
              obtain ⟨a, h1, h2⟩ := List.mem_map.1 hm
              rw [← SY.out] at h2
              obtain ⟨i, hi, e⟩ := List.mem_iff_getElem.1 h1
              exact hn.out i hi a (by rw [← e]; exact List.getElem?_eq_getElem hi) (bl_inj h2))
            have e5 : wr.cell? ⟨h, 5, none⟩ = some (.slice A acc.length d) := (blk_cell D4.out.tg 5).trans rfl
            clear hlt hn hj w1
            go_upto_region 37 with (go_at_call 50; refine (here07_calls D4.out.dr).mono ?_; rw [← SY.out]; rintro e w5 ⟨rfl, hb⟩; dsimp only; have D5 := Lib.hid (D4.out.step hb); clear hb D4)
            clear e5 q1
            obtain ⟨b, hb⟩ : ∃ b, b = w5.heap.size := ⟨_, rfl⟩
            obtain ⟨V6, hV6⟩ : ∃ V, V = w5.alloc (.cells #[.string y, .slice none 0 0] 62) := ⟨_, rfl⟩
            rw [← hV6, ← hb]
            have D6 := Lib.hid (show Dc w wl vp V6 g h L ps' s.size { T3 with exts := acc } u1 u4 (.slice A acc.length d) (.slice none 0 0) from by rw [hV6]; exact D5.out.step (below_alloc (Below.refl _ _) _))
            have B6 := Lib.hid (show V6.heap[b]? = some (.cells #[.string y, .slice none 0 0] 62 (0, 0)) from by rw [hV6, hb]; exact new_blk _ _)
            have HB5 := Lib.hid hb
            have K6 := Lib.hid (show KeepBut w5 V6 g none from by rw [hV6]; exact KeepBut.of_below (below_alloc (Below.refl _ _) _) g none)
            have HGB := Lib.hid (show g < w5.heap.size from by have := D5.out.gh; have := D5.out.hp; have := D5.out.size; omega)
            clear hV6 hb
            obtain ⟨A6, c6, i6, gi6, -, -, li6, -⟩ := D6.out.dr.rd
            have GI6 := Lib.hid gi6
            have z6 : World.cell? V6 ⟨g, 1, none⟩ = some (.int .i64 (i6 : Int)) := (blk_cell gi6 1).trans rfl
            have f6 := blk_frozen gi6 1
            have y6 : wrap64 ((i6 : Int) + 1) = (i6 : Int) + 1 := by have := D6.out.dr.few; unfold wrap64; omega
            clear gi6 li6
            go_upto_region 38 with (fail)
            obtain ⟨V7, hV7⟩ : ∃ V, V = V6.setCell ⟨g, 1, none⟩ (.int .i64 ((i6 : Int) + 1)) := ⟨_, rfl⟩
            rw [← hV7]
            have D7 := Lib.hid (show Dc w wl vp V7 g h L t' s.size { T3 with exts := acc } u1 u4 (.slice A acc.length d) (.slice none 0 0) from by rw [hV7]; exact dc_next D6.out HP'.out GI6.out)
            have B7 := Lib.hid (show V7.heap[b]? = some (.cells #[.string y, .slice none 0 0] 62 (0, 0)) from by rw [hV7]; exact blk_far B6.out (p := ⟨g, 1, none⟩) (by have := HGB.out; have := HB5.out; show b ≠ g; omega) _)
            have K7 := Lib.hid (show KeepBut w5 V7 g none from by rw [hV7]; exact K6.out.set_ 1 _)
            clear hV7 D6 B6 K6 z6 f6 y6 GI6
            have HG7 := Lib.hid (show g < V7.heap.size from by have := D7.out.gh; have := D7.out.hp; have := D7.out.size; omega)
            obtain ⟨sb, hsb⟩ : ∃ l, l = rowL qTwo t' := ⟨_, rfl⟩
            obtain ⟨st, hst⟩ : ∃ l, l = rowT qTwo t' := ⟨_, rfl⟩
            have HSB := Lib.hid hsb
            have HST := Lib.hid hst
            clear hsb hst
            go_upto_region 39 with (go_at_call 55; refine (subs07_two D7.out.dr HG7.out (by have := D7.out.dr.len; have := HF.out; omega)).mono ?_; rw [← HSB.out, ← HST.out]; rintro e w8 ⟨v8, rfl, hr, hd, hk⟩; dsimp only; obtain ⟨B, db, hv8⟩ := Kd.R_slice hr; subst hv8; have HR8 := Lib.hid hr; have HD8 := Lib.hid hd; have HK8 := Lib.hid hk; have B8 := Lib.hid (keep_blk B7.out hk (show b ≠ g from by have := HGB.out; have := HB5.out; omega)); have k8 : w8.cell? ⟨b, 1, none⟩ = some (.slice none 0 0) := (blk_cell B8.out 1).trans rfl; have f8 := blk_frozen B8.out 1; clear hr hd hk B7)
            obtain ⟨V9, hV9⟩ : ∃ V, V = w8.setCell ⟨b, 1, none⟩ (.slice B sb.length db) := ⟨_, rfl⟩
            rw [← hV9]
            have K8 := Lib.hid (K7.out.trans HK8.out (.inl rfl))
            have K9 := Lib.hid (show KeepBut w5 V9 g none from by rw [hV9]; exact ⟨by have := K8.out.1; simpa using this, fun i hi hne hr => (Below.heap_setCell w8 ⟨b, 1, none⟩ _ i (by have := HB5.out; show i ≠ b; omega)).trans (K8.out.2 i hi hne hr)⟩)
            have D9 := Lib.hid (show Dc w wl vp V9 g h L st s.size { T3 with exts := acc } u1 u4 (.slice A acc.length d) (.slice none 0 0) from D5.out.keep K9.out (by rw [hV9]; exact HD8.out.far (by have := D5.out.dr.gl; have := HGB.out; have := HB5.out; omega) (by have := HGB.out; have := HB5.out; omega)))
            have B9 := Lib.hid (show V9.heap[b]? = some (.cells #[.string y, .slice B sb.length db] 62 (0, 0)) from by rw [hV9]; exact blk_put B8.out 1 _ rfl)
            have R9 := Lib.hid (show Kd.R Kd.string 9 V9 w5.heap.size (fun _ => True) (.slice B sb.length db) sb from by rw [hV9]; exact Kd.R_lower (Kd.R_set HR8.out B8.out (by decide) 1 _) K7.out.1)
            clear hV9 k8 f8 HR8 HD8 B8 K7 K8 D7 HK8
            have y0 : V9.cell? ⟨b, 0, none⟩ = some (.string y) := (blk_cell B9.out 0).trans rfl
            have y1 : V9.cell? ⟨b, 1, none⟩ = some (.slice B sb.length db) := (blk_cell B9.out 1).trans rfl
            have e5 : V9.cell? ⟨h, 5, none⟩ = some (.slice A acc.length d) := (blk_cell D9.out.tg 5).trans rfl
            have f5 := blk_frozen D9.out.tg 5
            by_cases hs : sb = []
            · have h0 := HM3.out
              have rt := rowT_none (q := qTwo) (t := t') (by rw [← HSB.out]; exact hs)
              have e2 : exR p4 = (acc, t', 2) := by rw [hR.out.x, extF_new HP'.out CV.out ND.out, ← HSB.out, if_pos (by rw [hs]; rfl)]
              rw [e2] at h0
              dsimp only at h0
              rw [if_neg (by decide), if_pos rfl] at h0
              clear e2
              have HBAD := Lib.hid (show r = .bad 10 (stopE s.size st).1 (stopE s.size st).2 from by rw [← h0, HST.out, rt])
              have hl0 : ((sb.length : Int) == 0) = true := by rw [hs]; rfl
              clear h0 rt hs e5 f5
              go_upto_if 173 with (fail)
              clear y0 y1
              go_wp2_with (go_at_call 51; refine (wrong07_calls D9.out.dr).mono ?_; rintro e w10 ⟨rfl, hb⟩; dsimp only; have D10 := Lib.hid (D9.out.step hb); obtain ⟨⟨k0, k1, k2, k3, k4, k5, k6, k7, k8, k9, k10⟩, ⟨f0, f1, f2, f3, f4, f5, f6, f7, f8, f9, f10⟩⟩ := cells11p (blk_on HN3.out D10.out.dr.blw); clear hb D9)
              exact doc_bad D10.out HN3.out 10 _ _ HBAD.out rfl
            · have hl0 : ((sb.length : Int) == 0) = false := beq_eq_false_iff_ne.2 (fun e => hs (List.length_eq_zero_iff.1 (by omega)))
              have NE := Lib.hid hs
              clear hs
              go_upto_if 173 with (fail)
              clear hl0
              obtain ⟨y2, hy2⟩ : ∃ l, l = acc ++ [(⟨y, sb⟩ : S62)] := ⟨_, rfl⟩
              have HY := Lib.hid hy2
              clear hy2
              go_wp2_with (at_builtin; refine Kd.S_append k62 (w0 := V9) vp.heap.size rfl (.tmp 177) (.tmp 179) 32 62 (.agg #[.string ⟨#[]⟩, .slice none 0 0]) 40 rfl Try.underlying32 info62 rfl (by decide) (by decide) (.slice A acc.length d) acc (⟨y, sb⟩ : S62) [.string y, .slice B sb.length db] (fun k_ => some k_ ≠ u1.ownBlock ∧ some k_ ≠ u4.ownBlock ∧ some k_ ≠ (.slice none 0 0 : Value).ownBlock) (fun k_ => w5.heap.size ≤ k_) rfl ?aX (k62_mkM _ _ _ (⟨y, sb⟩ : S62) (Kd.R_mono (Kd.R_lower (Kd.R_bound R9.out) D5.out.size) (fun k hk => hk.2.1))) (fun k hk => ⟨D5.out.own.fresh5 k hk, fun e => absurd (Kd.S_lt D5.out.own.2.2.1 _ e.symm) (by omega)⟩) (fun k hk => D9.out.own.fresh5 k hk) (ext_oldD D5.out K9.out) (Below.refl _ _) ?aS ?aL ?_; (case aX => rfl); (case aS => exact D9.out.size); (case aL => have := HAC.out; omega); intro x_ wb hs_ hb_ hg_ hat_; rw [← HY.out] at hs_; obtain ⟨A', d', hx_⟩ := Kd.S_slice hs_; subst hx_; have HS3 := Lib.hid hs_; have HB3 := Lib.hid hb_; have HG3 := Lib.hid hg_; have z3 : World.cell? _ ⟨h, 5, none⟩ = some _ := (blk_cell ((hb_.block h D9.out.hp).trans D9.out.tg) 5).trans rfl; have f3 := blk_frozen ((hb_.block h D9.out.hp).trans D9.out.tg) 5; clear hs_ hb_ hg_ hat_)
              go_wp2
              have dd := D9.out.app5 HB3.out HG3.out HS3.out
              have hx := hR.out.x
              rw [extF_new HP'.out CV.out ND.out, ← HSB.out, ← HST.out, ← SY.out, if_neg (by have := NE.out; simpa using this), ← HY.out] at hx
              have hl := rowL_len qTwo t'
              rw [← HSB.out, ← HST.out] at hl
              have hpl := congrArg List.length HP'.out
              rw [List.length_cons] at hpl
              have hsl : 0 < sb.length := List.length_pos_iff.2 NE.out
              have hyl := congrArg List.length HY.out
              rw [List.length_append, List.length_singleton] at hyl
              refine ⟨⟨m, st, y2, _, Lib.hid ⟨dd, hx, by have := hR.out.k; omega, by have := hR.out.n; omega⟩⟩, ?_⟩
              rw [dd.dr.left, hR.out.dc.dr.left]
              omega
      · have cf : isSi y = false := by simpa using cv
        rw [cf] at KF
        have vn := extF_no (n := n) (acc := acc) ((one_q (q := isSi) (by decide)).trans (show isSi (hereB ps') = false from by rw [← SY.out]; exact cf))
        have ve := hR.out.x.trans vn
        have VE := Lib.hid ve
        clear cv cf vn ve hy
        go_wp2_with (first | (go_at_call 50; refine (here07_calls D1.out.dr).mono ?_; rw [← SY.out]; rintro e w2 ⟨rfl, hb⟩; dsimp only; have D2 := Lib.hid (D1.out.step hb); clear hb D1) | (go_at_call 54; refine (KF.out _).mono ?_; rintro e w3 ⟨rfl, hb⟩; dsimp only; have D3 := Lib.hid (D2.out.step hb); clear hb D2))
        have h0 := HM3.out
        rw [VE.out] at h0
        dsimp only at h0
        rw [if_neg (by decide), if_neg (by decide)] at h0
        exact H2.out _ _ _ _ _ _ _ _ _ _ _ _ _ _ _ _ _ _ _ _ _ _ _ _ _ _ _ _ _ _ _ _ _ _ _ _ _ _ _ _ _ _ _ _ _ _ _ _ _ _ _ _ _ _ _ _ _ _ _ _ _ _ _ _ _ _ _ _ _ _ _ _ _ _ _ _ _ _ _ _ _ _ _ _ _ _ _ _ _ _ _ _ _ _ _ _ _ _ _ _ _ _ _ _ _ _ _ _ _ _ _ _ _ _ _ _ _ _ _ _ _ _ _ _ _ _ _ _ _ _ _ _ _ _ _ _ _ _ _ _ _ _ _ _ _ _ _ _ _ _ _ _ _ _ _ _ _ _ _ _ _ _ _ _ _ _ _ _ _ _ _ _ _ _ _ _ _ _ _ _ _ _ _ _ _ _ _ _ _ _ _ _ _ _ _ _ _ _ _ _ _ _ _ _ _ _ _ _ _ _ _ _ _ _ _ _ D3.out HP3.out h0
end Go.Proofs.Ytojglflamecnkaa.P
