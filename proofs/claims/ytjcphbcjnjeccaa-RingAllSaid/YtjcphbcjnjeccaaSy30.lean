import Derived.Test.YtjcphbcjnjeccaaSy29
set_option linter.unusedVariables false
set_option linter.unusedSimpArgs false
namespace Go.Sy
open Go Go.RowKit

structure SumR where
  ex : SEx
  ds : List (SV × SV)
  is : List (SI × SI)
  ls : List (SL × SL)
  pc : PC
def nodM (ren : List (Nat × Nat)) (fr : List SV) (hp : Heap) : Bool := nodupB (hp.map (·.1)) && nodupB (hp.map fun x => sig ren fr x.1)
def sumR (P : Program) (nm lo sz : Nat) (ren : List (Nat × Nat)) (tg : List Tgt) (L : Leaf) : Option SumR :=
  match L.ex with
  | .bad => some ⟨.bad, [], [], [], L.pc⟩
  | ex => match tgtOf ex tg with
    | none => none
    | some t => match diffF (okNames nm 64 lo sz) (okSI nm lo sz) ren L.fr L.fr t.fr, diffM P (okN nm lo sz) (okB nm lo sz) (okSI nm lo sz) ren L.fr L.hp t.hp with
      | some d, some l => if nodM ren L.fr t.hp then some ⟨ex, d.1, d.2 ++ l.1, l.2, L.pc⟩ else none
      | _, _ => none
def sumsR (P : Program) (nm lo sz : Nat) (ren : List (Nat × Nat)) (tg : List Tgt) : List Leaf → Option (List SumR)
  | [] => some []
  | L :: r => match sumR P nm lo sz ren tg L, sumsR P nm lo sz ren tg r with
    | some s, some l => some (s :: l)
    | _, _ => none
theorem sumsR_mem {P : Program} {nm lo sz : Nat} {ren : List (Nat × Nat)} {tg : List Tgt} : ∀ {ls : List Leaf} {l : List SumR}, sumsR P nm lo sz ren tg ls = some l → ∀ L ∈ ls, ∃ s ∈ l, sumR P nm lo sz ren tg L = some s
  | [], _, _, L, hL => by cases hL
  | M :: r, l, h, L, hL => by
    unfold sumsR at h
    split at h
    · rename_i s l' hs hl
      cases h
      rcases List.mem_cons.1 hL with rfl | hL
      · exact ⟨s, by simp, hs⟩
      · obtain ⟨s', hs', he⟩ := sumsR_mem hl L hL
        exact ⟨s', by simp [hs'], he⟩
    · cases h

section
variable {P : Program} {G : Type} {O : Orac} {I : In G}

theorem Agree.ren {lo hi : Nat} {ν ν' : Env G} {ρ ρ' ρ3 : Nat → Nat} (h : Agree lo hi ν ν' ρ ρ') (hr : ∀ n, out lo hi n = true → ρ3 n = ρ n) : Agree lo hi ν ν' ρ ρ3 :=
  ⟨h.I, h.g, h.i, h.b, h.v, h.l, h.e, hr⟩
theorem renR_out {nm : Nat} {ren : List (Nat × Nat)} (hren : ren.all (fun x => !(out nm (nm + 64) x.1)) = true) (fr : List SV) (ρ ρ2 : Nat → Nat) {n : Nat} (hn : out nm (nm + 64) n = true) : renR ren fr ρ ρ2 n = ρ n := by
  have : slotOf ren n = none := by
    induction ren with
    | nil => rfl
    | cons x r ih =>
      obtain ⟨m, t⟩ := x
      simp only [List.all_cons, Bool.and_eq_true, Bool.not_eq_true'] at hren
      unfold slotOf
      split
      · rename_i hb
        rw [Nat.eq_of_beq_eq_true hb] at hren
        rw [hn] at hren
        simp at hren
      · exact ih hren.2
  unfold renR
  rw [this]

/-- A loop whose rows may move; 'ren': the names that may, with the slots of their slices. -/
theorem loopR_ok (pr : PR P) (oo : OOK P O I) {f s nm lo sz n it : Nat} (h1 : (loopsAt P f s).length = 1) {fr0 frI : List SV} {hp0 hpI : Heap} {pcI bads : PC} {tg : List Tgt} {sums : List SumR} {start : List (SV × SV)} {startI startI2 : List (SI × SI)} {startL : List (SL × SL)} {ren : List (Nat × Nat)}
    (hren : ren.all (fun x => !(out nm (nm + 64) x.1)) = true)
    (hbody : (codeX P O lo sz f n it (loopAt P f s) frI pcI hpI).bind (sumsR P nm lo sz ren (⟨.normal, frI, hpI, pcI⟩ :: tg)) = some sums)
    (hst : diffF (fun v => v.av nm (nm + 64)) (fun a => a.av nm (nm + 64)) ren fr0 fr0 frI = some (start, startI)) (hsl : diffM P (fun m => out nm (nm + 64) m) (fun b => b.av nm (nm + 64)) (fun a => a.av nm (nm + 64)) ren fr0 hp0 hpI = some (startI2, startL)) (hsn : nodM ren fr0 hpI = true)
    (J : Env G → Env G → Prop) (m : Env G → Env G → Nat)
    (hstart : ∀ ν ρ, ν.I = I → (∀ x ∈ bads, x.1.den ν ≠ x.2) → ∃ ν1, Agree nm (nm + 64) ν ν1 ρ ρ ∧ J ν ν1 ∧ pcDen ν1 pcI ∧ (∀ y ∈ start, ∀ ρ3, y.1.den ν ρ = y.2.den ν1 ρ3) ∧ (∀ y ∈ startI, y.1.den ν = y.2.den ν1) ∧ (∀ y ∈ startI2, y.1.den ν = y.2.den ν1) ∧ ∀ y ∈ startL, y.1.den ν = y.2.den ν1)
    (round : ∀ s ∈ sums, ∀ ν ρ ν1 ρ1 ν2 ρ2, ν.I = I → (∀ x ∈ bads, x.1.den ν ≠ x.2) → Agree nm (nm + 64) ν ν1 ρ ρ1 → J ν ν1 → pcDen ν1 pcI → Agree lo (lo + sz) ν1 ν2 ρ1 ρ2 → pcDen ν2 s.pc →
      match s.ex with
      | .normal => ∃ ν3, Agree nm (nm + 64) ν ν3 ρ ρ ∧ J ν ν3 ∧ pcDen ν3 pcI ∧ m ν ν3 < m ν ν1 ∧ (∀ y ∈ s.ds, ∀ ρ3, y.1.den ν2 ρ2 = y.2.den ν3 ρ3) ∧ (∀ y ∈ s.is, y.1.den ν2 = y.2.den ν3) ∧ ∀ y ∈ s.ls, y.1.den ν2 = y.2.den ν3
      | .bad => False
      | ex => ∃ ν3, Agree nm (nm + 64) ν ν3 ρ ρ ∧ (∀ t ∈ tg, t.ex = ex → pcDen ν3 t.pc) ∧ (∀ y ∈ s.ds, ∀ ρ3, y.1.den ν2 ρ2 = y.2.den ν3 ρ3) ∧ (∀ y ∈ s.is, y.1.den ν2 = y.2.den ν3) ∧ ∀ y ∈ s.ls, y.1.den ν2 = y.2.den ν3) {O' : Orac} (oo' : OOK P O' I) :
    OOK P (O'.withLoop f s nm fr0 hp0 (mkM nm tg bads)) I := by
  refine withLoop_ok oo' h1 ?_
  intro pc sub hsub hpart B ν ρ Q hQ hI hl act w hpc hf hw
  unfold mkM at hl
  cases hp : pav nm (nm + 64) pc with
  | false => rw [hp] at hl; exact (hl ⟨.bad, [], [], []⟩ (by simp) act w ⟨ν, ρ, Agree.refl _ _ _ _, pcDen_nil _, fun h => h.elim⟩).elim
  | true =>
    rw [hp] at hl
    simp only [if_true] at hl
    have hbad : ∀ x ∈ bads, x.1.den ν ≠ x.2 := prune_denG hpc fun x hx he =>
      (hl ⟨.bad, [], x :: pc, []⟩ (List.mem_append_right _ (List.mem_map.2 ⟨x, hx, rfl⟩)) act w ⟨ν, ρ, Agree.refl _ _ _ _, pcDen_one' he hpc, fun h => h.elim⟩).elim
    have hmono : ∀ {ν3 : Env G} {ρ3 : Nat → Nat}, Agree nm (nm + 64) ν ν3 ρ ρ3 → Agree nm (nm + sub) ν ν3 ρ ρ3 := fun h => h.mono (Nat.ble_eq_true_of_le (Nat.le_refl _)) (Nat.ble_eq_true_of_le (by omega))
    cases hb : codeX P O lo sz f n it (loopAt P f s) frI pcI hpI with
    | none => rw [hb] at hbody; cases hbody
    | some lsB =>
      rw [hb] at hbody
      simp only [Option.bind_some] at hbody
      obtain ⟨ν0, g1, g2, g3, g4, g5, g6, g7⟩ := hstart ν ρ hI hbad
      have gρ := Agree.ren g1 (ρ3 := renR ren fr0 ρ ρ) (fun n hn => renR_out hren fr0 ρ ρ hn)
      simp only [nodM, Bool.and_eq_true] at hsn
      refine wp_loop_ghost (fun k act w => ∃ ν1 ρ1, Agree nm (nm + 64) ν ν1 ρ ρ1 ∧ J ν ν1 ∧ pcDen ν1 pcI ∧ m ν ν1 = k ∧ FR ν1 ρ1 frI act ∧ HW B ν1 ρ1 hpI w) (m ν ν0) ⟨ν0, renR ren fr0 ρ ρ, gρ, g2, g3, rfl, ?_, ?_⟩ ?_
      · exact FR.diffF (fun v hv => (SV.den_agree gρ v hv).symm) (fun a ha => (SI.den_agree gρ a ha).symm) hst (fun y hy => g4 y hy _) g5 hf
      · exact HW.diffM (fun _ _ => rfl) (fun n b hn hb w F hd => BlkDen.agree gρ hb hn hd) (fun a ha => (SI.den_agree gρ a ha).symm) hw hsl hsn.1 hsn.2 g6 g7
      rintro k act w ⟨ν1, ρ1, k1, k2, k3, k4, k5, k6⟩
      refine x_code pr oo hb hpart B ν1 ρ1 (Exit.then _ Q) (k1.I.trans hI) (fun ch a w hq => hQ ch a w hq) ?_ act w ⟨ν1, ρ1, Agree.refl _ _ _ _, k3, fun _ => ⟨k5, k6⟩⟩
      rintro L hL act' w' ⟨ν2, ρ2, e1, e2, e3⟩
      obtain ⟨t, ht, hsum⟩ := sumsR_mem hbody L hL
      have hr := round t ht ν ρ ν1 ρ1 ν2 ρ2 hI hbad k1 k2 k3 e1
      have hback : ∀ {ν3 : Env G}, Agree nm (nm + 64) ν ν3 ρ ρ → ∀ {frT : List SV} {hpT : Heap} {d : List (SV × SV) × List (SI × SI)} {l : List (SI × SI) × List (SL × SL)},
          diffF (okNames nm 64 lo sz) (okSI nm lo sz) ren L.fr L.fr frT = some d → diffM P (okN nm lo sz) (okB nm lo sz) (okSI nm lo sz) ren L.fr L.hp hpT = some l → nodM ren L.fr hpT = true →
          (∀ y ∈ d.1, ∀ ρ3, y.1.den ν2 ρ2 = y.2.den ν3 ρ3) → (∀ y ∈ d.2 ++ l.1, y.1.den ν2 = y.2.den ν3) → (∀ y ∈ l.2, y.1.den ν2 = y.2.den ν3) → FR ν2 ρ2 L.fr act' → HW B ν2 ρ2 L.hp w' →
          Agree nm (nm + 64) ν ν3 ρ (renR ren L.fr ρ ρ2) ∧ FR ν3 (renR ren L.fr ρ ρ2) frT act' ∧ HW B ν3 (renR ren L.fr ρ ρ2) hpT w' := by
        intro ν3 a3 frT hpT d l hd hl' hn' q1 q2 q3 hf2 hw2
        have aρ := Agree.ren a3 (ρ3 := renR ren L.fr ρ ρ2) (fun n hn => renR_out hren L.fr ρ ρ2 hn)
        simp only [nodM, Bool.and_eq_true] at hn'
        have hSI : ∀ a : SI, okSI nm lo sz a = true → a.den ν2 = a.den ν3 := fun a ha => by
          simp only [okSI, Bool.and_eq_true] at ha
          rw [SI.den_agree e1 a ha.2, SI.den_agree k1 a ha.1, SI.den_agree a3 a ha.1]
        refine ⟨aρ, FR.diffF (fun v hv => ?_) hSI hd (fun y hy => q1 y hy _) (fun y hy => q2 y (List.mem_append_left _ hy)) hf2, HW.diffM (fun n hn => ?_) (fun n b hn hb w F hd => ?_) hSI hw2 hl' hn'.1 hn'.2 (fun y hy => q2 y (List.mem_append_right _ hy)) q3⟩
        · simp only [okNames, Bool.and_eq_true] at hv
          rw [SV.den_agree e1 v hv.2, SV.den_agree k1 v hv.1, SV.den_agree aρ v hv.1]
        · simp only [okN, Bool.and_eq_true] at hn
          rw [e1.r n hn.2, k1.r n hn.1]
        · simp only [okN, Bool.and_eq_true] at hn
          simp only [okB, Bool.and_eq_true] at hb
          exact BlkDen.agree aρ hb.1 hn.1 (BlkDen.agree k1.symm hb.1 hn.1 (BlkDen.agree e1.symm hb.2 hn.2 hd))
      unfold sumR at hsum
      cases hex : L.ex with
      | normal =>
        rw [hex] at hsum e3
        simp only [tgtOf, exBeq, if_true] at hsum
        split at hsum
        · rename_i d l hd hl'
          split at hsum
          · rename_i hn'
            cases hsum
            obtain ⟨ν3, q1, q2, q3, q4, q5, q6, q7⟩ := hr e2
            obtain ⟨hf2, hw2⟩ := e3 trivial
            obtain ⟨b1, b2, b3⟩ := hback q1 hd hl' hn' q5 q6 q7 hf2 hw2
            exact ⟨m ν ν3, by omega, ν3, _, b1, q2, q3, rfl, b2, b3⟩
          · cases hsum
        · cases hsum
      | exit i =>
        rw [hex] at hsum e3
        simp only [tgtOf, exBeq] at hsum
        split at hsum
        · cases hsum
        · rename_i t' ht'
          have ht' : tgtOf (.exit i) tg = some t' := by simpa using ht'
          obtain ⟨m1, m2⟩ := tgtOf_mem ht'
          split at hsum
          · rename_i d l hd hl'
            split at hsum
            · rename_i hn'
              cases hsum
              obtain ⟨ν3, q1, q2, q3, q4, q5⟩ := hr e2
              obtain ⟨hf2, hw2⟩ := e3 trivial
              obtain ⟨b1, b2, b3⟩ := hback q1 hd hl' hn' q3 q4 q5 hf2 hw2
              have := hl ⟨t'.ex, t'.fr, t'.pc ++ pc, t'.hp⟩ (List.mem_append_left _ (List.mem_map.2 ⟨t', List.mem_filter.2 ⟨m1, by rw [m2]; rfl⟩, rfl⟩)) act' w'
                ⟨ν3, _, hmono b1, pcDen_append (q2 t' m1 m2) (pcDen_agree q1 hp hpc), fun _ => ⟨b2, b3⟩⟩
              simp only [m2] at this
              exact this
            · cases hsum
          · cases hsum
      | ret =>
        rw [hex] at hsum e3
        simp only [tgtOf, exBeq] at hsum
        split at hsum
        · cases hsum
        · rename_i t' ht'
          have ht' : tgtOf .ret tg = some t' := by simpa using ht'
          obtain ⟨m1, m2⟩ := tgtOf_mem ht'
          split at hsum
          · rename_i d l hd hl'
            split at hsum
            · rename_i hn'
              cases hsum
              obtain ⟨ν3, q1, q2, q3, q4, q5⟩ := hr e2
              obtain ⟨hf2, hw2⟩ := e3 trivial
              obtain ⟨b1, b2, b3⟩ := hback q1 hd hl' hn' q3 q4 q5 hf2 hw2
              have := hl ⟨t'.ex, t'.fr, t'.pc ++ pc, t'.hp⟩ (List.mem_append_left _ (List.mem_map.2 ⟨t', List.mem_filter.2 ⟨m1, by rw [m2]; rfl⟩, rfl⟩)) act' w'
                ⟨ν3, _, hmono b1, pcDen_append (q2 t' m1 m2) (pcDen_agree q1 hp hpc), fun _ => ⟨b2, b3⟩⟩
              simp only [m2] at this
              exact this
            · cases hsum
          · cases hsum
      | bad =>
        rw [hex] at hsum
        simp only [Option.some.injEq] at hsum
        subst hsum
        exact (hr e2).elim
end
end Go.Sy
