import Derived.Test.YtjcphbcjnjeccaaSy18
set_option linter.unusedVariables false
set_option linter.unusedSimpArgs false
namespace Go.Sy
open Go Go.RowKit

/-! ### loops that change no memory -/
/-- A leaf against the head's frame (normal) or the exit's frame: how it ends; the slots that part; the path. -/
def sumOf (ok : SV → Bool) (frI frX : List SV) (hpI : Heap) (L : Leaf) : Option (SEx × List (SV × SV) × PC) :=
  match L.ex with
  | .bad => some (.bad, [], L.pc)
  | .normal => if leafBeq.hB L.hp hpI then (diffX ok L.fr frI).map fun d => (.normal, d, L.pc) else none
  | .exit i => if leafBeq.hB L.hp hpI then (diffX ok L.fr frX).map fun d => (.exit i, d, L.pc) else none
  | .ret => none
def sumsOf (ok : SV → Bool) (frI frX : List SV) (hpI : Heap) : List Leaf → Option (List (SEx × List (SV × SV) × PC))
  | [] => some []
  | L :: r => match sumOf ok frI frX hpI L, sumsOf ok frI frX hpI r with
    | some s, some l => some (s :: l)
    | _, _ => none

theorem sumsOf_mem {ok : SV → Bool} {frI frX : List SV} {hpI : Heap} : ∀ {ls : List Leaf} {l : List (SEx × List (SV × SV) × PC)}, sumsOf ok frI frX hpI ls = some l → ∀ L ∈ ls, ∃ s ∈ l, sumOf ok frI frX hpI L = some s
  | [], _, _, L, hL => by cases hL
  | M :: r, l, h, L, hL => by
    unfold sumsOf at h
    split at h
    · rename_i s l' hs hl
      cases h
      rcases List.mem_cons.1 hL with rfl | hL
      · exact ⟨s, by simp, hs⟩
      · obtain ⟨s', hs', he⟩ := sumsOf_mem hl L hL
        exact ⟨s', by simp [hs'], he⟩
    · cases h

/-- Names that a round's frame may keep: out of the loop's own, out of the round's. -/
def okNames (nm sub lo sz : Nat) (v : SV) : Bool := v.av nm (nm + sub) && v.av lo (lo + sz)

section
variable {P : Program} {G : Type} {O : Orac} {I : In G}

theorem loop_pure (pr : PR P) (oo : OOK P O I) {f : Nat} {a : Code} (hpart : PartOf P f a) {nm sub0 lo sz n it x : Nat} {fr0 frI frX : List SV} {pcI : PC} {hpI : Heap} {sums : List (SEx × List (SV × SV) × PC)} {start : List (SV × SV)}
    (hbody : (codeX P O lo sz f n it a frI pcI hpI).bind (sumsOf (okNames nm sub0 lo sz) frI frX hpI) = some sums) (h0 : diffX (fun v => v.av nm (nm + sub0)) fr0 frI = some start)
    (hv1 : hav nm (nm + sub0) hpI = true) (hv2 : hav lo (lo + sz) hpI = true)
    (J : Env G → Prop) (m : Env G → Nat) (pcX : PC → PC) {B : Base} {ν : Env G} {ρ : Nat → Nat} {Q : Exit → Act → World → Prop} (hQ : NP Q) (hI : ν.I = I)
    (hstart : ∃ ν1, Agree nm (nm + sub0) ν ν1 ρ ρ ∧ J ν1 ∧ pcDen ν1 pcI ∧ ∀ y ∈ start, y.1.den ν ρ = y.2.den ν1 ρ)
    (round : ∀ s ∈ sums, ∀ ν1 ν2 ρ2, Agree nm (nm + sub0) ν ν1 ρ ρ → J ν1 → pcDen ν1 pcI → Agree lo (lo + sz) ν1 ν2 ρ ρ2 → pcDen ν2 s.2.2 →
      match s.1 with
      | .normal => ∃ ν3, Agree nm (nm + sub0) ν ν3 ρ ρ ∧ J ν3 ∧ pcDen ν3 pcI ∧ m ν3 < m ν1 ∧ ∀ y ∈ s.2.1, y.1.den ν2 ρ2 = y.2.den ν3 ρ
      | .exit i => i = x ∧ ∃ ν3, Agree nm (nm + sub0) ν ν3 ρ ρ ∧ pcDen ν3 (pcX []) ∧ ∀ y ∈ s.2.1, y.1.den ν2 ρ2 = y.2.den ν3 ρ
      | _ => False)
    {pc : PC} (hpcX : ∀ ν3 : Env G, pcDen ν3 (pcX []) → pcDen ν3 pc → pcDen ν3 (pcX pc)) (hpv : pav nm (nm + sub0) pc = true)
    (hl : ∀ a w, SatL nm (nm + sub0) ν ρ B ⟨.exit x, frX, pcX pc, hpI⟩ a w → Q (.exit x) a w) (act : Act) (w : World) (hpc : pcDen ν pc) (hf : FR ν ρ fr0 act) (hw : HW B ν ρ hpI w) : (Code.loop a).wp P Q act w := by
  cases hb : codeX P O lo sz f n it a frI pcI hpI with
  | none => rw [hb] at hbody; cases hbody
  | some lsB =>
    rw [hb] at hbody
    simp only [Option.bind_some] at hbody
    obtain ⟨ν0, g1, g2, g3, g4⟩ := hstart
    have hnames : ∀ {ν1 ν2 ν3 : Env G} {ρ2 : Nat → Nat}, Agree nm (nm + sub0) ν ν1 ρ ρ → Agree lo (lo + sz) ν1 ν2 ρ ρ2 → Agree nm (nm + sub0) ν ν3 ρ ρ → ∀ v, okNames nm sub0 lo sz v = true → v.den ν2 ρ2 = v.den ν3 ρ := by
      intro ν1 ν2 ν3 ρ2 a1 a2 a3 v hv
      simp only [okNames, Bool.and_eq_true] at hv
      rw [SV.den_agree a2 v hv.2, SV.den_agree a1 v hv.1, SV.den_agree a3 v hv.1]
    refine wp_loop_ghost (fun k act w => ∃ ν1, Agree nm (nm + sub0) ν ν1 ρ ρ ∧ J ν1 ∧ pcDen ν1 pcI ∧ m ν1 = k ∧ FR ν1 ρ frI act ∧ HW B ν1 ρ hpI w) (m ν0) ⟨ν0, g1, g2, g3, rfl, FR.diff (fun v hv => (SV.den_agree g1 v hv).symm) h0 g4 hf, HW.agree g1 hv1 hw⟩ ?_
    rintro k act w ⟨ν1, h1, h2, h3, h4, h5, h6⟩
    refine x_code pr oo hb hpart B ν1 ρ (Exit.then _ Q) (h1.I.trans hI) (fun ch a w hq => hQ ch a w hq) ?_ act w ⟨ν1, ρ, Agree.refl _ _ _ _, h3, fun _ => ⟨h5, h6⟩⟩
    rintro L hL act' w' ⟨ν2, ρ2, k1, k2, k3⟩
    obtain ⟨s, hs, hsum⟩ := sumsOf_mem hbody L hL
    have hback : ∀ {ν3 : Env G}, Agree nm (nm + sub0) ν ν3 ρ ρ → HW B ν2 ρ2 hpI w' → HW B ν3 ρ hpI w' := fun h7 hw2 => HW.agree h7 hv1 (HW.agree h1.symm hv1 (HW.agree k1.symm hv2 hw2))
    unfold sumOf at hsum
    cases hex : L.ex with
    | normal =>
      rw [hex] at hsum k3
      simp only at hsum
      split at hsum
      · rename_i hheap
        simp only [Option.map_eq_some_iff] at hsum
        obtain ⟨d, hd, rfl⟩ := hsum
        obtain ⟨ν3, e1, e2, e3, e4, e5⟩ := round _ hs ν1 ν2 ρ2 h1 h2 h3 k1 k2
        obtain ⟨hf2, hw2⟩ := k3 trivial
        rw [hB_eq hheap] at hw2
        exact ⟨m ν3, by omega, ν3, e1, e2, e3, rfl, FR.diff (hnames h1 k1 e1) hd e5 hf2, hback e1 hw2⟩
      · cases hsum
    | exit i =>
      rw [hex] at hsum k3
      simp only at hsum
      split at hsum
      · rename_i hheap
        simp only [Option.map_eq_some_iff] at hsum
        obtain ⟨d, hd, rfl⟩ := hsum
        obtain ⟨rfl, ν3, e1, e2, e3⟩ := round _ hs ν1 ν2 ρ2 h1 h2 h3 k1 k2
        obtain ⟨hf2, hw2⟩ := k3 trivial
        rw [hB_eq hheap] at hw2
        refine hl act' w' ⟨ν3, ρ, e1, hpcX ν3 e2 (pcDen_agree e1 hpv hpc), fun _ => ⟨FR.diff (hnames h1 k1 e1) hd e3 hf2, hback e1 hw2⟩⟩
      · cases hsum
    | ret => rw [hex] at hsum; cases hsum
    | bad =>
      rw [hex] at hsum
      simp only [Option.some.injEq] at hsum
      subst hsum
      exact (round _ hs ν1 ν2 ρ2 h1 h2 h3 k1 k2).elim
end
end Go.Sy
