import Derived.Test.YtjcphbcjnjeccaaSy16
import Derived.Deep.LoopGhost
set_option linter.unusedVariables false
set_option linter.unusedSimpArgs false
namespace Go.Sy
open Go Go.RowKit

theorem Agree.symm {G : Type} {lo hi : Nat} {ν ν' : Env G} {ρ ρ' : Nat → Nat} (h : Agree lo hi ν ν' ρ ρ') : Agree lo hi ν' ν ρ' ρ :=
  ⟨h.I.symm, fun n hn => (h.g n hn).symm, fun n hn => (h.i n hn).symm, fun n hn => (h.b n hn).symm, fun n hn => (h.v n hn).symm, fun n hn => (h.l n hn).symm, fun n hn => (h.e n hn).symm, fun n hn => (h.r n hn).symm⟩

theorem HW.agree {G : Type} {B : Base} {lo hi : Nat} {ν ν' : Env G} {ρ ρ' : Nat → Nat} {hp : Heap} {w : World} (hag : Agree lo hi ν ν' ρ ρ') (hv : hav lo hi hp = true) (h : HW B ν ρ hp w) : HW B ν' ρ' hp w :=
  ⟨h.os, h.tape, h.output, h.size, h.kept, h.nd, by
    obtain ⟨F, h1, h2, h3⟩ := h.foot
    exact ⟨F, fun n b hm => BlkDen.agree hag (hav_mem hv n b hm).2 (hav_mem hv n b hm).1 (h1 n b hm), h2, h3⟩⟩

/-- What is said of a world is true of one that has new blocks alone. -/
theorem HW.later {G : Type} {B : Base} {ν : Env G} {ρ : Nat → Nat} {hp : Heap} {w w' : World} (h : HW B ν ρ hp w) (hb : Below w.heap.size w w') : HW B ν ρ hp w' := by
  obtain ⟨F, h1, h2, h3⟩ := h.foot
  refine ⟨hb.os.trans h.os, hb.tape.trans h.tape, hb.output.trans h.output, Nat.le_trans h.size hb.size, fun k hk => ?_, h.nd, F, fun n b hm => BlkDen.world (fun k hk => hb.block k (BlkDen.lt (h1 n b hm) hk)) (h1 n b hm), h2, h3⟩
  have hlt : k < w.heap.size := by
    rcases Nat.lt_or_ge k w.heap.size with hl | hl
    · exact hl
    · exact absurd (.inl (Nat.le_trans h.size hl)) hk
  rw [hb.block k hlt]
  exact h.kept k hk

section
variable {P : Program} {G : Type} {O : Orac} {I : In G}

def NormalTo (K : Act → World → Prop) (Q : Exit → Act → World → Prop) : SEx → Act → World → Prop
  | .normal, a, w => K a w
  | .exit i, a, w => Q (.exit i) a w
  | .ret, a, w => Q .ret a w
  | .bad, _, _ => False

/-- A loop, by the executor: 'frI, pcI, hpI': the state at a round's head, in names of [nm, nm + sub); 'J': what holds of the names; 'm': what each round lowers. -/
theorem loop_rule (pr : PR P) (oo : OOK P O I) {f : Nat} {a : Code} (hpart : PartOf P f a) {nm sub lo sz n it : Nat} {frI : List SV} {pcI : PC} {hpI : Heap} {lsB : List Leaf} (hbody : codeX P O lo sz f n it a frI pcI hpI = some lsB)
    (J : Env G → Prop) (m : Env G → Nat) {B : Base} {ν : Env G} {ρ : Nat → Nat} {Q : Exit → Act → World → Prop} (hQ : NP Q) (hI : ν.I = I)
    (round : ∀ L ∈ lsB, ∀ ν1 ρ1 ν2 ρ2, Agree nm (nm + sub) ν ν1 ρ ρ1 → J ν1 → pcDen ν1 pcI → Agree lo (lo + sz) ν1 ν2 ρ1 ρ2 → pcDen ν2 L.pc → ∀ act w, (NotBad L.ex → FR ν2 ρ2 L.fr act ∧ HW B ν2 ρ2 L.hp w) →
      NormalTo (fun act w => ∃ ν3 ρ3, Agree nm (nm + sub) ν ν3 ρ ρ3 ∧ J ν3 ∧ pcDen ν3 pcI ∧ m ν3 < m ν1 ∧ FR ν3 ρ3 frI act ∧ HW B ν3 ρ3 hpI w) Q L.ex act w)
    (act : Act) (w : World) (start : ∃ ν1 ρ1, Agree nm (nm + sub) ν ν1 ρ ρ1 ∧ J ν1 ∧ pcDen ν1 pcI ∧ FR ν1 ρ1 frI act ∧ HW B ν1 ρ1 hpI w) : (Code.loop a).wp P Q act w := by
  obtain ⟨ν0, ρ0, g1, g2, g3, g4, g5⟩ := start
  refine wp_loop_ghost (fun k act w => ∃ ν1 ρ1, Agree nm (nm + sub) ν ν1 ρ ρ1 ∧ J ν1 ∧ pcDen ν1 pcI ∧ m ν1 = k ∧ FR ν1 ρ1 frI act ∧ HW B ν1 ρ1 hpI w) (m ν0) ⟨ν0, ρ0, g1, g2, g3, rfl, g4, g5⟩ ?_
  rintro k act w ⟨ν1, ρ1, h1, h2, h3, h4, h5, h6⟩
  refine x_code pr oo hbody hpart B ν1 ρ1 (Exit.then _ Q) (h1.I.trans hI) (fun ch a w hq => hQ ch a w hq) ?_ act w ⟨ν1, ρ1, Agree.refl _ _ _ _, h3, fun _ => ⟨h5, h6⟩⟩
  rintro L hL act' w' ⟨ν2, ρ2, k1, k2, k3⟩
  have := round L hL ν1 ρ1 ν2 ρ2 h1 h2 h3 k1 k2 act' w' k3
  cases hex : L.ex with
  | normal =>
    rw [hex] at this
    obtain ⟨ν3, ρ3, e1, e2, e3, e4, e5, e6⟩ := this
    exact ⟨m ν3, by omega, ν3, ρ3, e1, e2, e3, rfl, e5, e6⟩
  | exit i => rw [hex] at this; exact this
  | ret => rw [hex] at this; exact this
  | bad => rw [hex] at this; exact this
end
end Go.Sy
