/- What is seen of an arena's machine, and whether a walk is like it: the calls. -/
import Derived.Test.YtlmenjenkpnacaaLwXL
import Derived.Test.YtlmenjenkpnacaaLwSn6tn
import Derived.Test.YtlmenjenkpnacaaLwSn6td
import Derived.Test.YtlmenjenkpnacaaLwSn6pn
import Derived.Test.YtlmenjenkpnacaaLwSn6pd
import Derived.Test.YtlmenjenkpnacaaLwLk6tn
import Derived.Test.YtlmenjenkpnacaaLwLk6td
import Derived.Test.YtlmenjenkpnacaaLwLk6pn
import Derived.Test.YtlmenjenkpnacaaLwXK
set_option linter.unusedVariables false
set_option linter.unusedSimpArgs false

section
namespace Go.Proofs.Ytlmenjenkpnacaa
open Go Go.Sy Go.RowKit

def ouLk6tn : List CLeaf := [
  ⟨false, (.bool (.lit true)), [((.gb 0 (.app 76 (.var 2) (.app 80 (.var 1) (.var 0) (.add (.var 7) (.lit 1)) (.lit 0) (.lit 0) (.lit 0) (.cons (.var 0) (.cons (.var 1) (.cons (.lit 0) (.cons (.lit 0) (.cons (.lit 1) (.cons (.lit 0) (.cons (.lit 0) (.cons (.lit 0) (.cons (.lit 0) (.cons (.lit 0) .nil))))))))))) (.lit 0) (.lit 0) (.lit 0) (.lit 0) .nil) (.lit 0) (.lit 0)), true), ((.eq (.gi 17 (.app 78 (.var 2) (.var 0) (.lit 121) (.lit 10) (.var 2) (.lit 0) (.cons (.lit 3) (.cons (.lit 3) (.cons (.lit 7) (.cons (.lit 7) (.cons (.lit 8) (.cons (.lit 3) (.cons (.lit 7) (.cons (.lit 10) (.cons (.lit 8) (.cons (.lit 10) .nil))))))))))) (.lit 0) (.lit 0)) (.add (.var 7) (.lit 1))), true), ((.lt (.var 0) (.lit 0)), false), ((.lt (.var 0) (.sub (.lit 65536) (.var 1))), true), ((.lt (.var 1) (.lit 1)), false), ((.lt (.var 1) (.lit 4097)), true), ((.lt (.var 7) (.lit 0)), false), ((.lt (.lit 200) (.var 7)), false), ((.lt (.var 8) (.lit 0)), false), ((.gb 0 (.app 83 (.var 1) (.var 0) (.lit 0) (.lit 0) (.lit 0) (.lit 0) .nil) (.lit 0) (.lit 0)), true)], [(1, (.tab 10 (.var 1) [some .u64, none] (.var 8) (.var 7)))]⟩,
  ⟨false, (.bool (.lit false)), [((.lit false), true), ((.gb 0 (.app 76 (.var 2) (.app 80 (.var 1) (.var 0) (.add (.var 7) (.lit 1)) (.lit 0) (.lit 0) (.lit 0) (.cons (.var 0) (.cons (.var 1) (.cons (.lit 0) (.cons (.lit 0) (.cons (.lit 1) (.cons (.lit 0) (.cons (.lit 0) (.cons (.lit 0) (.cons (.lit 0) (.cons (.lit 0) .nil))))))))))) (.lit 0) (.lit 0) (.lit 0) (.lit 0) .nil) (.lit 0) (.lit 0)), true), ((.eq (.gi 17 (.app 78 (.var 2) (.var 0) (.lit 121) (.lit 10) (.var 2) (.lit 0) (.cons (.lit 3) (.cons (.lit 3) (.cons (.lit 7) (.cons (.lit 7) (.cons (.lit 8) (.cons (.lit 3) (.cons (.lit 7) (.cons (.lit 10) (.cons (.lit 8) (.cons (.lit 10) .nil))))))))))) (.lit 0) (.lit 0)) (.add (.var 7) (.lit 1))), true), ((.lt (.var 0) (.lit 0)), false), ((.lt (.var 0) (.sub (.lit 65536) (.var 1))), true), ((.lt (.var 1) (.lit 1)), false), ((.lt (.var 1) (.lit 4097)), true), ((.lt (.var 7) (.lit 0)), false), ((.lt (.lit 200) (.var 7)), false), ((.lt (.var 8) (.lit 0)), false), ((.gb 0 (.app 83 (.var 1) (.var 0) (.lit 0) (.lit 0) (.lit 0) (.lit 0) .nil) (.lit 0) (.lit 0)), true)], []⟩]
def ouLk6td : List CLeaf := [
  ⟨false, (.bool (.lit true)), [((.gb 0 (.app 76 (.var 2) (.app 80 (.var 1) (.var 0) (.add (.var 7) (.lit 1)) (.lit 0) (.lit 0) (.lit 0) (.cons (.lit 0) (.cons (.lit 0) (.cons (.lit 0) (.cons (.lit 0) (.cons (.lit 1) (.cons (.lit 0) (.cons (.lit 0) (.cons (.lit 1) (.cons (.lit 2) (.cons (.lit 0) .nil))))))))))) (.lit 0) (.lit 0) (.lit 0) (.lit 0) .nil) (.lit 0) (.lit 0)), true), ((.eq (.gi 17 (.app 78 (.var 2) (.var 0) (.lit 121) (.lit 10) (.var 2) (.lit 0) (.cons (.lit 3) (.cons (.lit 3) (.cons (.lit 7) (.cons (.lit 7) (.cons (.lit 8) (.cons (.lit 3) (.cons (.lit 7) (.cons (.lit 10) (.cons (.lit 8) (.cons (.lit 10) .nil))))))))))) (.lit 0) (.lit 0)) (.add (.var 7) (.lit 1))), true), ((.lt (.var 7) (.lit 0)), false), ((.lt (.lit 200) (.var 7)), false), ((.lt (.var 8) (.lit 0)), false), ((.gb 0 (.app 83 (.var 1) (.var 0) (.lit 0) (.lit 0) (.lit 0) (.lit 0) .nil) (.lit 0) (.lit 0)), true)], [(1, (.tab 10 (.var 1) [some .u64, none] (.var 8) (.var 7)))]⟩,
  ⟨false, (.bool (.lit false)), [((.lit false), true), ((.gb 0 (.app 76 (.var 2) (.app 80 (.var 1) (.var 0) (.add (.var 7) (.lit 1)) (.lit 0) (.lit 0) (.lit 0) (.cons (.lit 0) (.cons (.lit 0) (.cons (.lit 0) (.cons (.lit 0) (.cons (.lit 1) (.cons (.lit 0) (.cons (.lit 0) (.cons (.lit 1) (.cons (.lit 2) (.cons (.lit 0) .nil))))))))))) (.lit 0) (.lit 0) (.lit 0) (.lit 0) .nil) (.lit 0) (.lit 0)), true), ((.eq (.gi 17 (.app 78 (.var 2) (.var 0) (.lit 121) (.lit 10) (.var 2) (.lit 0) (.cons (.lit 3) (.cons (.lit 3) (.cons (.lit 7) (.cons (.lit 7) (.cons (.lit 8) (.cons (.lit 3) (.cons (.lit 7) (.cons (.lit 10) (.cons (.lit 8) (.cons (.lit 10) .nil))))))))))) (.lit 0) (.lit 0)) (.add (.var 7) (.lit 1))), true), ((.lt (.var 7) (.lit 0)), false), ((.lt (.lit 200) (.var 7)), false), ((.lt (.var 8) (.lit 0)), false), ((.gb 0 (.app 83 (.var 1) (.var 0) (.lit 0) (.lit 0) (.lit 0) (.lit 0) .nil) (.lit 0) (.lit 0)), true)], []⟩]
def ouLk6pn : List CLeaf := [
  ⟨false, (.bool (.lit true)), [((.gb 0 (.app 76 (.var 2) (.app 80 (.var 1) (.var 0) (.add (.var 7) (.lit 1)) (.lit 0) (.lit 0) (.lit 0) (.cons (.var 0) (.cons (.var 1) (.cons (.lit 1) (.cons (.var 3) (.cons (.lit 1) (.cons (.lit 0) (.cons (.lit 0) (.cons (.lit 0) (.cons (.lit 0) (.cons (.lit 0) .nil))))))))))) (.lit 0) (.lit 0) (.lit 0) (.lit 0) .nil) (.lit 0) (.lit 0)), true), ((.eq (.gi 17 (.app 78 (.var 2) (.var 0) (.lit 121) (.lit 10) (.var 2) (.lit 0) (.cons (.lit 3) (.cons (.lit 3) (.cons (.lit 7) (.cons (.lit 7) (.cons (.lit 8) (.cons (.lit 3) (.cons (.lit 7) (.cons (.lit 10) (.cons (.lit 8) (.cons (.lit 10) .nil))))))))))) (.lit 0) (.lit 0)) (.add (.var 7) (.lit 1))), true), ((.lt (.var 0) (.lit 0)), false), ((.lt (.var 0) (.sub (.lit 65536) (.var 1))), true), ((.lt (.var 1) (.lit 1)), false), ((.lt (.var 1) (.lit 4097)), true), ((.lt (.var 3) (.lit 1)), false), ((.lt (.var 1) (.var 3)), false), ((.lt (.var 7) (.lit 0)), false), ((.lt (.lit 200) (.var 7)), false), ((.lt (.var 8) (.lit 0)), false), ((.gb 0 (.app 83 (.var 1) (.var 0) (.lit 0) (.lit 0) (.lit 0) (.lit 0) .nil) (.lit 0) (.lit 0)), true)], [(1, (.tab 10 (.var 1) [some .u64, none] (.var 8) (.var 7)))]⟩,
  ⟨false, (.bool (.lit false)), [((.lit false), true), ((.gb 0 (.app 76 (.var 2) (.app 80 (.var 1) (.var 0) (.add (.var 7) (.lit 1)) (.lit 0) (.lit 0) (.lit 0) (.cons (.var 0) (.cons (.var 1) (.cons (.lit 1) (.cons (.var 3) (.cons (.lit 1) (.cons (.lit 0) (.cons (.lit 0) (.cons (.lit 0) (.cons (.lit 0) (.cons (.lit 0) .nil))))))))))) (.lit 0) (.lit 0) (.lit 0) (.lit 0) .nil) (.lit 0) (.lit 0)), true), ((.eq (.gi 17 (.app 78 (.var 2) (.var 0) (.lit 121) (.lit 10) (.var 2) (.lit 0) (.cons (.lit 3) (.cons (.lit 3) (.cons (.lit 7) (.cons (.lit 7) (.cons (.lit 8) (.cons (.lit 3) (.cons (.lit 7) (.cons (.lit 10) (.cons (.lit 8) (.cons (.lit 10) .nil))))))))))) (.lit 0) (.lit 0)) (.add (.var 7) (.lit 1))), true), ((.lt (.var 0) (.lit 0)), false), ((.lt (.var 0) (.sub (.lit 65536) (.var 1))), true), ((.lt (.var 1) (.lit 1)), false), ((.lt (.var 1) (.lit 4097)), true), ((.lt (.var 3) (.lit 1)), false), ((.lt (.var 1) (.var 3)), false), ((.lt (.var 7) (.lit 0)), false), ((.lt (.lit 200) (.var 7)), false), ((.lt (.var 8) (.lit 0)), false), ((.gb 0 (.app 83 (.var 1) (.var 0) (.lit 0) (.lit 0) (.lit 0) (.lit 0) .nil) (.lit 0) (.lit 0)), true)], []⟩]
def oLk6tn (P : Program) : Orac := ((oLk P).withLoopF fLk 4 nLk (eLk P false false).fr (eLk P false false).hp (mkM nLk (gLk (eLk P false false).fr) (bdLk P false false)))
theorem runLk6tn : runX Try.prog (oLk6tn Try.prog) fLk (tLk false false).args (tLk false false).pc (tLk false false).hp = some ouLk6tn := by kernel_rfl
theorem oLk6tn_ok : OOK Try.prog (oLk6tn Try.prog) inM := withLoopF_ok oLk_ok6tn (loopLk6tn oLk_ok6tn)
def shLk6tn : List CLeaf := ouLk6tn.take 1
theorem shLk6tn_ok : ∀ c ∈ ouLk6tn, ∀ ν : Env Gh, ν.I = inM → pcDen ν c.pc → ∃ c' ∈ shLk6tn, c'.bad = c.bad ∧ (∀ ρ, c'.v.den ν ρ = c.v.den ν ρ) ∧ c'.hp.Sublist c.hp ∧ pcDen ν c'.pc := by
  intro c hc ν hI hp
  simp only [ouLk6tn, List.mem_cons, List.not_mem_nil, or_false] at hc
  rcases hc with rfl | rfl
  · exact ⟨_, List.mem_of_getElem? (show shLk6tn[0]? = some _ from rfl), rfl, fun _ => rfl, List.Sublist.refl _, hp⟩
  · have := pcAt hp 0 rfl
    simp [SB.den] at this
theorem like6tn_ok {O : Orac} (oo : OOK Try.prog O inM) : OOK Try.prog (O.withCallF fLk (sumK Try.prog (tLk false false) shLk6tn)) inM := withCallF_ok oo (sum_okC pr oLk6tn_ok runLk6tn shLk6tn_ok oo)
def oLk6td (P : Program) : Orac := ((oLk P).withLoopF fLk 4 nLk (eLk P false true).fr (eLk P false true).hp (mkM nLk (gLk (eLk P false true).fr) (bdLk P false true)))
theorem runLk6td : runX Try.prog (oLk6td Try.prog) fLk (tLk false true).args (tLk false true).pc (tLk false true).hp = some ouLk6td := by kernel_rfl
theorem oLk6td_ok : OOK Try.prog (oLk6td Try.prog) inM := withLoopF_ok oLk_ok6td (loopLk6td oLk_ok6td)
def shLk6td : List CLeaf := ouLk6td.take 1
theorem shLk6td_ok : ∀ c ∈ ouLk6td, ∀ ν : Env Gh, ν.I = inM → pcDen ν c.pc → ∃ c' ∈ shLk6td, c'.bad = c.bad ∧ (∀ ρ, c'.v.den ν ρ = c.v.den ν ρ) ∧ c'.hp.Sublist c.hp ∧ pcDen ν c'.pc := by
  intro c hc ν hI hp
  simp only [ouLk6td, List.mem_cons, List.not_mem_nil, or_false] at hc
  rcases hc with rfl | rfl
  · exact ⟨_, List.mem_of_getElem? (show shLk6td[0]? = some _ from rfl), rfl, fun _ => rfl, List.Sublist.refl _, hp⟩
  · have := pcAt hp 0 rfl
    simp [SB.den] at this
theorem like6td_ok {O : Orac} (oo : OOK Try.prog O inM) : OOK Try.prog (O.withCallF fLk (sumK Try.prog (tLk false true) shLk6td)) inM := withCallF_ok oo (sum_okC pr oLk6td_ok runLk6td shLk6td_ok oo)
def oLk6pn (P : Program) : Orac := ((oLk P).withLoopF fLk 4 nLk (eLk P true false).fr (eLk P true false).hp (mkM nLk (gLk (eLk P true false).fr) (bdLk P true false)))
theorem runLk6pn : runX Try.prog (oLk6pn Try.prog) fLk (tLk true false).args (tLk true false).pc (tLk true false).hp = some ouLk6pn := by kernel_rfl
theorem oLk6pn_ok : OOK Try.prog (oLk6pn Try.prog) inM := withLoopF_ok oLk_ok6pn (loopLk6pn oLk_ok6pn)
def shLk6pn : List CLeaf := ouLk6pn.take 1
theorem shLk6pn_ok : ∀ c ∈ ouLk6pn, ∀ ν : Env Gh, ν.I = inM → pcDen ν c.pc → ∃ c' ∈ shLk6pn, c'.bad = c.bad ∧ (∀ ρ, c'.v.den ν ρ = c.v.den ν ρ) ∧ c'.hp.Sublist c.hp ∧ pcDen ν c'.pc := by
  intro c hc ν hI hp
  simp only [ouLk6pn, List.mem_cons, List.not_mem_nil, or_false] at hc
  rcases hc with rfl | rfl
  · exact ⟨_, List.mem_of_getElem? (show shLk6pn[0]? = some _ from rfl), rfl, fun _ => rfl, List.Sublist.refl _, hp⟩
  · have := pcAt hp 0 rfl
    simp [SB.den] at this
theorem like6pn_ok {O : Orac} (oo : OOK Try.prog O inM) : OOK Try.prog (O.withCallF fLk (sumK Try.prog (tLk true false) shLk6pn)) inM := withCallF_ok oo (sum_okC pr oLk6pn_ok runLk6pn shLk6pn_ok oo)
theorem kSn_ok {puts dn : Bool} {sh : List CLeaf} {O : Orac} (oo : OOK Try.prog O inM) (h : OOK Try.prog (O.withCall fSn (sumK Try.prog (tSn puts dn) sh)) inM) : OOK Try.prog (O.withCallF fSn (kSn Try.prog puts dn sh)) inM := by
  refine withCallF_ok oo ⟨?_, oo.loop, oo.op, oo.tail, oo.order⟩
  intro f lo args pc hp cs ho
  refine h.call ?_
  revert ho
  unfold Orac.withCall
  simp only
  split
  · intro ho
    unfold kSn at ho
    split at ho
    · exact ho
    · cases ho
  · exact id
theorem seen6tn_ok {O : Orac} (oo : OOK Try.prog O inM) : OOK Try.prog (O.withCallF fSn (kSn Try.prog false false ouSn6tn)) inM := kSn_ok oo (sum_ok pr oSn6tn_ok runSn6tn oo)
theorem seen6pn_ok {O : Orac} (oo : OOK Try.prog O inM) : OOK Try.prog (O.withCallF fSn (kSn Try.prog true false ouSn6pn)) inM := kSn_ok oo (sum_ok pr oSn6pn_ok runSn6pn oo)
theorem seenB_den {ν : Env Gh} (hI : ν.I = inM) (n : Nat) (l : SL) : (seenB n l).den ν = (nG (ν.g n) == List.map SC.nums (seen6 (l.den ν) (ν.g 1).t (ν.i 7 + 1).toNat)) := by
  simp only [seenB, SB.den, SG.den, SI.den, hI, inM, xga, SL.den]
  rfl
theorem canS_den {ν : Env Gh} (hI : ν.I = inM) {puts : Bool} {p : PC} (h : pcDen ν ((seenB (nSn + 6) (begSn puts true), true) :: p)) : pcDen ν ((seenB (nSn + 6) (begLk false true), true) :: p) := by
  obtain ⟨h1, h2⟩ := (pcDen_cons_iff ..).1 h
  refine pcDen_cons ?_ h2
  rw [seenB_den hI, se6_eq] at h1
  rw [seenB_den hI, se6_lk, se6_dead (ν.i 0) (ν.i 0) (ν.i 1) (ν.i 1) false puts (ν.i 3) (ν.i 3)]
  exact h1
def shSn6td : List CLeaf := ouSn6td.map canS
theorem seen6td_ok {O : Orac} (oo : OOK Try.prog O inM) : OOK Try.prog (O.withCallF fSn (kSn Try.prog false true shSn6td)) inM := by
  refine kSn_ok oo (sum_okC pr oSn6td_ok runSn6td (fun c hc ν hI hp => ⟨canS c, List.mem_map.2 ⟨c, hc, rfl⟩, rfl, fun _ => rfl, List.Sublist.refl _, ?_⟩) oo)
  simp only [ouSn6td, List.mem_cons, List.not_mem_nil, or_false] at hc
  subst hc
  exact canS_den (puts := false) hI hp
def shSn6pd : List CLeaf := ouSn6pd.map canS
theorem seen6pd_ok {O : Orac} (oo : OOK Try.prog O inM) : OOK Try.prog (O.withCallF fSn (kSn Try.prog true true shSn6pd)) inM := by
  refine kSn_ok oo (sum_okC pr oSn6pd_ok runSn6pd (fun c hc ν hI hp => ⟨canS c, List.mem_map.2 ⟨c, hc, rfl⟩, rfl, fun _ => rfl, List.Sublist.refl _, ?_⟩) oo)
  simp only [ouSn6pd, List.mem_cons, List.not_mem_nil, or_false] at hc
  subst hc
  exact canS_den (puts := true) hI hp
end Go.Proofs.Ytlmenjenkpnacaa
end

section
namespace Go.Proofs.Ytlmenjenkpnacaa
open Go Go.Sy Go.RowKit

def fSl : Nat := 5
def argsSl (v : SV) : List SV := [.agg [.int .i64 (.var 10), .int .i64 (.var 11)], .int .i64 (.var 12), v]
def pcSl : PC := [(.lt (.var 7) (.lit 0), false), (.lt (.var 8) (.lit 0), false), (.gb 0 (.app 83 (.var 1) (.var 0) (.lit 0) (.lit 0) (.lit 0) (.lit 0) .nil) (.lit 0) (.lit 0), true)]
def hpSl : Heap := [(1, tldT)]
def oSl (P : Program) : Orac :=
  ((((((((((oLk P).withCall 14 awakeK).withCallF fSn (kSn P false false ouSn6tn)).withCallF fSn (kSn P false true shSn6td)).withCallF fSn (kSn P true false ouSn6pn)).withCallF fSn (kSn P true true shSn6pd)).withCallF fLk (sumK P (tLk false false) shLk6tn)).withCallF fLk (sumK P (tLk false true) shLk6td)).withCallF fLk (sumK P (tLk true false) shLk6pn)).pruned P).withOp (opAppN P)
/-! the ways in which it may begin -/
def l1 : SB := .lt (.var 11) (.lit 1)
def l2 : SB := .lt (.var 11) (.lit 4097)
def l3 : SB := .lt (.var 10) (.lit 0)
def l4 : SB := .lt (.var 10) (.sub (.lit 65536) (.var 11))
def l5 : SB := .lt (.var 12) (.lit 1)
def l6 : SB := .lt (.var 11) (.var 12)
def fitS : PC := [(l1, false), (l2, true), (l3, false), (l4, true)]
def wayS : Nat → PC
  | 0 => [(l1, true)]
  | 1 => [(l1, false), (l2, false)]
  | 2 => [(l1, false), (l2, true), (l3, true)]
  | 3 => [(l1, false), (l2, true), (l3, false), (l4, false)]
  | 4 => (l5, true) :: fitS
  | 5 => (l6, true) :: (l5, false) :: fitS
  | _ => (l6, false) :: (l5, false) :: fitS
theorem wayS_den {G : Type} (ν : Env G) : ∃ k, k < 7 ∧ pcDen ν (wayS k) := by
  have t : ∀ c : SB, c.den ν = true ∨ c.den ν = false := fun c => by cases c.den ν <;> simp
  rcases t l1 with a | a
  · exact ⟨0, by decide, pcDen_one a⟩
  rcases t l2 with b | b
  case inr => exact ⟨1, by decide, pcDen_cons a (pcDen_one b)⟩
  rcases t l3 with c | c
  · exact ⟨2, by decide, pcDen_cons a (pcDen_cons b (pcDen_one c))⟩
  rcases t l4 with d | d
  case inr => exact ⟨3, by decide, pcDen_cons a (pcDen_cons b (pcDen_cons c (pcDen_one d)))⟩
  have f : pcDen ν fitS := pcDen_cons a (pcDen_cons b (pcDen_cons c (pcDen_one d)))
  rcases t l5 with e | e
  · exact ⟨4, by decide, pcDen_cons e f⟩
  rcases t l6 with g | g
  · exact ⟨5, by decide, pcDen_cons g (pcDen_cons e f)⟩
  · exact ⟨6, by decide, pcDen_cons g (pcDen_cons e f)⟩
end Go.Proofs.Ytlmenjenkpnacaa
end
