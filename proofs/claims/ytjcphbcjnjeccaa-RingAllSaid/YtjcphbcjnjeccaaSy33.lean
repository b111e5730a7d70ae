import Derived.Test.YtjcphbcjnjeccaaSy32
set_option linter.unusedVariables false
set_option linter.unusedSimpArgs false
namespace Go.Sy
open Go Go.RowKit

section
variable {P : Program} {G : Type} {nm lo sz : Nat} {ν2 ν3 : Env G} {ρ2 ρ3 : Nat → Nat}

theorem mF_den (ok : OkAll nm lo sz ν2 ν3) (kr : KeepR nm lo sz ρ2 ρ3) : ∀ {ts us : List SV} {s s' : Mt}, mF nm lo sz ts us s = some s' → s'.Sat nm ν2 ν3 ρ2 ρ3 →
    s.Sat nm ν2 ν3 ρ2 ρ3 ∧ us.length = ts.length ∧ ∀ (t : Nat) (v : SV), ts[t]? = some v → v.isDead = false → ∃ u, us[t]? = some u ∧ u.isDead = false ∧ u.den ν2 ρ2 = v.den ν3 ρ3 := by
  intro ts
  induction ts with
  | nil =>
    intro us s s' hm h
    cases us with
    | nil => cases hm; exact ⟨h, rfl, fun t v hv => by simp at hv⟩
    | cons u us => simp [mF] at hm
  | cons t ts ih =>
    intro us s s' hm h
    cases us with
    | nil => simp [mF] at hm
    | cons u us =>
      unfold mF at hm
      split at hm
      · rename_i hd
        obtain ⟨h1, h2, h3⟩ := ih hm h
        refine ⟨h1, by simp [h2], fun k v hv hdv => ?_⟩
        cases k with
        | zero => simp only [List.getElem?_cons_zero, Option.some.injEq] at hv; subst hv; rw [hd] at hdv; cases hdv
        | succ k => simpa using h3 k v (by simpa using hv) hdv
      · split at hm
        · cases hm
        · rename_i hud
          split at hm
          · rename_i s1 hs1
            obtain ⟨h1, h2, h3⟩ := ih hm h
            obtain ⟨h4, h5⟩ := mV_den ok kr hs1 h1
            refine ⟨h4, by simp [h2], fun k v hv hdv => ?_⟩
            cases k with
            | zero => simp only [List.getElem?_cons_zero, Option.some.injEq] at hv; subst hv; exact ⟨u, rfl, by simpa using hud, h5⟩
            | succ k => simpa using h3 k v (by simpa using hv) hdv
          · cases hm

theorem mBk_den (ok : OkAll nm lo sz ν2 ν3) (kr : KeepR nm lo sz ρ2 ρ3) {t b : SBk} {s s' : Mt} (hm : mBk nm lo sz P t b s = some s') (h : s'.Sat nm ν2 ν3 ρ2 ρ3) : s.Sat nm ν2 ν3 ρ2 ρ3 ∧
    ∀ {B : Base} {us : Heap} {w : World} {n m : Nat} {F : Nat → Prop}, ρ3 m = ρ2 n → HW B ν2 ρ2 us w → (n, b) ∈ us → BlkDen B ν2 ρ2 w F n b → BlkDen B ν3 ρ3 w F m t := by
  unfold mBk at hm
  split at hm
  · split at hm
    · rename_i ts ty ex vs ty' ex' hc
      simp only [Bool.and_eq_true] at hc
      have e1 := Nat.eq_of_beq_eq_true hc.1
      have e2 := bBeq_eq hc.2
      subst e1 e2
      obtain ⟨h1, h2⟩ := mVs_den ok kr hm h
      refine ⟨h1, fun {B us w n m F} hr _ _ hd => ?_⟩
      cases ex <;> simp only [BlkDen] at hd ⊢ <;> rw [hr, ← h2] <;> exact hd
    · cases hm
  · rename_i k l c ty
    split at hm
    · rename_i j l' c' ty' har
      split at hm
      · rename_i hc
        simp only [Bool.and_eq_true] at hc
        have e1 := kBeq_eq hc.1
        have e2 := Nat.eq_of_beq_eq_true hc.2
        subst e1 e2
        cases hm
        obtain ⟨h, d1⟩ := mI_den ok.i h
        obtain ⟨h, d2⟩ := mL_den ok.l h
        refine ⟨h, fun {B us w n m F} hr hw hmem hd => ?_⟩
        obtain ⟨rest, r1, r2, r3⟩ := asRow_den hw hmem har
        have hF := BlkDen.single (asRow_nores har) hd
        simp only [BlkDen]
        rw [hr, ← d1, ← d2]
        exact ⟨⟨rest, r1, r2, r3⟩, hF⟩
      · cases hm
    · cases hm
  · cases hm
    obtain ⟨h, d1⟩ := mG_den ok _ _ h
    refine ⟨h, fun {B us w n m F} hr _ _ hd => ?_⟩
    simp only [BlkDen] at hd ⊢
    rw [hr, ← d1, ← ok.I]; exact hd
  · split at hm
    · rename_i hk
      have hk := kBeq_eq hk
      subst hk
      cases hm
      obtain ⟨h, d1⟩ := mL_den ok.l h
      obtain ⟨h, d2⟩ := mI_den ok.i h
      refine ⟨h, fun {B us w n m F} hr _ _ hd => ?_⟩
      simp only [BlkDen] at hd ⊢
      rw [hr, ← d1, ← d2]; exact hd
    · cases hm
  · split at hm
    · rename_i hk
      simp only [Bool.and_eq_true] at hk
      have e1 := Nat.eq_of_beq_eq_true hk.1
      have e2 := ksBeq_eq hk.2
      subst e1 e2
      cases hm
      obtain ⟨h, d1⟩ := mI_den ok.i h
      obtain ⟨h, d2⟩ := mI_den ok.i h
      obtain ⟨h, d3⟩ := mG_den ok _ _ h
      refine ⟨h, fun {B us w n m F} hr _ _ hd => ?_⟩
      simp only [BlkDen] at hd ⊢
      rw [hr, ← d1, ← d2, ← d3, ← ok.I]; exact hd
    · cases hm
  · cases hm

theorem mH1_den (ok : OkAll nm lo sz ν2 ν3) (kr : KeepR nm lo sz ρ2 ρ3) (us : Heap) : ∀ {ts q : Heap} {acc acc' : List (Nat × Nat)} {s s' : Mt}, mH1 nm lo sz P us ts acc s = some (q, acc', s') → s'.Sat nm ν2 ν3 ρ2 ρ3 → s.Sat nm ν2 ν3 ρ2 ρ3 ∧ (∀ y ∈ acc, y ∈ acc') ∧
    ∀ x ∈ ts, x ∈ q ∨ ∃ n b, (x.1, n) ∈ acc' ∧ (n, b) ∈ us ∧ (inH nm x.1 = true → ρ3 x.1 = ρ2 n) ∧ (inH nm x.1 = false → n = x.1) ∧ ∀ {B : Base} {w : World} {m : Nat} {F : Nat → Prop}, ρ3 m = ρ2 n → HW B ν2 ρ2 us w → BlkDen B ν2 ρ2 w F n b → BlkDen B ν3 ρ3 w F m x.2
  | [], q, acc, acc', s, s', hm, h => by cases hm; exact ⟨h, fun _ h => h, fun x hx => by cases hx⟩
  | (m, c) :: r, q, acc, acc', s, s', hm, h => by
    unfold mH1 at hm
    split at hm
    · split at hm
      · rename_i q' a1 s1 hs1
        cases hm
        obtain ⟨h1, h0, h2⟩ := mH1_den ok kr us hs1 h
        refine ⟨h1, h0, fun x hx => ?_⟩
        rcases List.mem_cons.1 hx with rfl | hx
        · exact .inl (List.mem_cons_self ..)
        · rcases h2 x hx with h | h
          · exact .inl (List.mem_cons_of_mem _ h)
          · exact .inr h
      · cases hm
    · rename_i n hn
      split at hm
      · cases hm
      · rename_i b hb
        split at hm
        · cases hm
        · rename_i s1 hs1
          obtain ⟨h1, h0, h2⟩ := mH1_den ok kr us hm h
          obtain ⟨h3, h4⟩ := mBk_den ok kr hs1 h1
          refine ⟨h3, fun y hy => h0 y (List.mem_cons_of_mem _ hy), fun x hx => ?_⟩
          rcases List.mem_cons.1 hx with rfl | hx
          · refine .inr ⟨n, b, h0 _ (List.mem_cons_self ..), hget_mem hb, fun hH => ?_, fun hH => ?_, fun {B w m F} hr hw hd => h4 hr hw (hget_mem hb) hd⟩
            · unfold sigM at hn
              rw [hH] at hn
              exact h3.b _ (lkp_mem hn)
            · unfold sigM at hn
              rw [hH] at hn
              exact (Option.some.inj hn).symm
          · exact h2 x hx

theorem mHs_den (ok : OkAll nm lo sz ν2 ν3) (kr : KeepR nm lo sz ρ2 ρ3) (us : Heap) : ∀ {k : Nat} {ts : Heap} {acc acc' : List (Nat × Nat)} {s s' : Mt}, mHs nm lo sz P us k ts acc s = some (acc', s') → s'.Sat nm ν2 ν3 ρ2 ρ3 → s.Sat nm ν2 ν3 ρ2 ρ3 ∧ (∀ y ∈ acc, y ∈ acc') ∧
    ∀ x ∈ ts, ∃ n b, (x.1, n) ∈ acc' ∧ (n, b) ∈ us ∧ (inH nm x.1 = true → ρ3 x.1 = ρ2 n) ∧ (inH nm x.1 = false → n = x.1) ∧ ∀ {B : Base} {w : World} {m : Nat} {F : Nat → Prop}, ρ3 m = ρ2 n → HW B ν2 ρ2 us w → BlkDen B ν2 ρ2 w F n b → BlkDen B ν3 ρ3 w F m x.2
  | _, [], acc, acc', s, s', hm, h => by simp only [mHs] at hm; cases hm; exact ⟨h, fun _ h => h, fun x hx => by cases hx⟩
  | 0, x :: r, acc, acc', s, s', hm, h => by simp [mHs] at hm
  | k + 1, x :: r, acc, acc', s, s', hm, h => by
    unfold mHs at hm
    split at hm
    · rename_i q a1 s1 hs1
      obtain ⟨h1, h0, h2⟩ := mHs_den ok kr us hm h
      obtain ⟨h3, h5, h4⟩ := mH1_den ok kr us hs1 h1
      refine ⟨h3, fun y hy => h0 y (h5 y hy), fun x hx => ?_⟩
      rcases h4 x hx with hq | ⟨n, b, e1, e2⟩
      · exact h2 x hq
      · exact ⟨n, b, h0 _ e1, e2⟩
    · cases hm

theorem snd_inj {l : List (Nat × Nat)} (h : (l.map (·.2)).Nodup) {a b n : Nat} (ha : (a, n) ∈ l) (hb : (b, n) ∈ l) : a = b := by
  induction l with
  | nil => cases ha
  | cons x r ih =>
    simp only [List.map_cons, List.nodup_cons] at h
    rcases List.mem_cons.1 ha with ha | ha <;> rcases List.mem_cons.1 hb with hb | hb
    · rw [← ha] at hb; cases hb; rfl
    · rw [← ha] at h; exact absurd (List.mem_map.2 ⟨_, hb, rfl⟩) h.1
    · rw [← hb] at h; exact absurd (List.mem_map.2 ⟨_, ha, rfl⟩) h.1
    · exact ih h.2 ha hb

/-- The heap. -/
theorem mHs_hw (ok : OkAll nm lo sz ν2 ν3) (kr : KeepR nm lo sz ρ2 ρ3) {hu ht : Heap} {k : Nat} {acc : List (Nat × Nat)} {s1 s : Mt} (hm : mHs nm lo sz P hu k ht [] s1 = some (acc, s)) (c1 : nodupB (ht.map (·.1)) = true) (c2 : nodupB (acc.map (·.2)) = true) (c3 : (ht.all fun x => inH nm x.1 || out lo (lo + sz) x.1) = true) (h : s.Sat nm ν2 ν3 ρ2 ρ3) {B : Base} {w : World} (hw : HW B ν2 ρ2 hu w) :
    s1.Sat nm ν2 ν3 ρ2 ρ3 ∧ HW B ν3 ρ3 ht w := by
  obtain ⟨h1, -, h2⟩ := mHs_den ok kr hu hm h
  refine ⟨h1, ?_⟩
  obtain ⟨F, f1, f2, f3⟩ := hw.foot
  have pick : ∀ m c, (m, c) ∈ ht → ∃ n b, (m, n) ∈ acc ∧ (n, b) ∈ hu ∧ BlkDen B ν3 ρ3 w (F n) m c := by
    intro m c hx
    obtain ⟨n, b, e1, e2, e3, e4, hd⟩ := h2 (m, c) hx
    have hr : ρ3 m = ρ2 n := by
      cases hH : inH nm m with
      | true => exact e3 hH
      | false =>
        have := e4 hH
        subst this
        have h6 := List.all_eq_true.1 c3 _ hx
        simp only [hH, Bool.false_or] at h6
        exact kr _ (by unfold inH at hH; simpa using hH) h6
    exact ⟨n, b, e1, e2, hd hr hw (f1 _ _ e2)⟩
  have hnd := nodupB_nd c1
  have pick' : ∀ m, ∃ n, ∀ c, (m, c) ∈ ht → ∃ b, (m, n) ∈ acc ∧ (n, b) ∈ hu ∧ BlkDen B ν3 ρ3 w (F n) m c := by
    intro m
    by_cases hx : ∃ c, (m, c) ∈ ht
    · obtain ⟨c, hc⟩ := hx
      obtain ⟨n, b, e1, e2, e3⟩ := pick m c hc
      refine ⟨n, fun c' hc' => ⟨b, e1, e2, ?_⟩⟩
      rw [hget_unique hnd hc' hc]; exact e3
    · exact ⟨0, fun c hc => absurd ⟨c, hc⟩ hx⟩
  obtain ⟨f, hf⟩ := Classical.axiomOfChoice pick'
  refine ⟨hw.os, hw.tape, hw.output, hw.size, hw.kept, hnd, fun m => F (f m), ?_, ?_, ?_⟩
  · intro m c hx
    obtain ⟨b, -, -, h⟩ := hf m c hx
    exact h
  · intro m c k hx hk
    obtain ⟨b, -, h, -⟩ := hf m c hx
    exact f2 (f m) b k h hk
  · intro m c m' c' k hx hx' hk hk'
    obtain ⟨b, h1, h2, -⟩ := hf m c hx
    obtain ⟨b', h1', h2', -⟩ := hf m' c' hx'
    have e := f3 _ b _ b' k h2 h2' hk hk'
    rw [e] at h1
    exact snd_inj (nodupB_nd c2) h1 h1'

/-- All of it. -/
theorem mAll_den (ok : OkAll nm lo sz ν2 ν3) (kr : KeepR nm lo sz ρ2 ρ3) {us : List SV} {hu : Heap} {ts : List SV} {ht : Heap} {s : Mt} (hm : mAll nm lo sz P us hu ts ht = some s) (h : s.Sat nm ν2 ν3 ρ2 ρ3) :
    (∀ act, FR ν2 ρ2 us act → FR ν3 ρ3 ts act) ∧ ∀ B w, HW B ν2 ρ2 hu w → HW B ν3 ρ3 ht w := by
  unfold mAll at hm
  split at hm
  · rename_i s1 hs1
    split at hm
    · rename_i acc s2 hs2
      split at hm
      · rename_i hc
        cases hm
        simp only [Bool.and_eq_true] at hc
        obtain ⟨⟨⟨c1, c2⟩, c3⟩, -⟩ := hc
        obtain ⟨h1, -, -⟩ := mHs_den ok kr hu hs2 h
        obtain ⟨-, h3, h4⟩ := mF_den ok kr hs1 h1
        refine ⟨fun act hf => ⟨by rw [hf.size, h3], fun t v hv hdead => ?_, hf.defers⟩, fun B w hw => (mHs_hw ok kr hs2 c1 c2 c3 h hw).2⟩
        obtain ⟨u, hu', hud, hden⟩ := h4 t v hv hdead
        rw [hf.tmps t u hu' hud, hden]
      · cases hm
    · cases hm
  · cases hm
theorem mAll_fine {us : List SV} {hu : Heap} {ts : List SV} {ht : Heap} {s : Mt} (hm : mAll nm lo sz P us hu ts ht = some s) : s.fine nm = true := by
  unfold mAll at hm
  split at hm
  · split at hm
    · split at hm
      · rename_i hc
        cases hm
        simp only [Bool.and_eq_true] at hc
        exact hc.2
      · cases hm
    · cases hm
  · cases hm
end
end Go.Sy
