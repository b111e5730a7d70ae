/- The document's deque and ring: may they be, one way at a time; what All says, in parts. -/
import Derived.Test.YtiofchhmdkhfoaaGreatLwXB
import Derived.Test.YtiofchhmdkhfoaaGreatLwRgAll
import Derived.Test.YtiofchhmdkhfoaaGreatLwRgRef
import Derived.Test.YtiofchhmdkhfoaaGreatLwXA
import Derived.Test.YtiofchhmdkhfoaaGreatSyXH
import Derived.Test.YtiofchhmdkhfoaaGreatLwXM
import Derived.Test.YtiofchhmdkhfoaaGreatSyXI
set_option linter.unusedVariables false
set_option linter.unusedSimpArgs false

section
namespace Go.Proofs.YtiofchhmdkhfoaaGreat
open Go Go.Sy Go.RowKit

/-- a size that may be; a place; room for it -/
def topR (k : Int) (a c : SI) : SB := .lt a (.sub (.lit 65535) (.mul (.lit k) c))
def shS7R : List CLeaf := [⟨false, .bool (.lit true), [(powB (.var 1), true), (.lt (.var 0) (.lit 0), false), (topR 1 (.var 0) (.var 1), true)], []⟩,
  ⟨false, .bool (.lit false), [(powB (.var 1), false)], []⟩, ⟨false, .bool (.lit false), [(powB (.var 1), true), (.lt (.var 0) (.lit 0), true)], []⟩,
  ⟨false, .bool (.lit false), [(powB (.var 1), true), (.lt (.var 0) (.lit 0), false), (topR 1 (.var 0) (.var 1), false)], []⟩]
theorem shS7R_ok {G : Type} {I : In G} : ∀ c ∈ ouR7, ∀ ν : Env G, ν.I = I → pcDen ν c.pc → ∃ c' ∈ shS7R, c'.bad = c.bad ∧ (∀ ρ, c'.v.den ν ρ = c.v.den ν ρ) ∧ c'.hp.Sublist c.hp ∧ pcDen ν c'.pc := by
  intro c hc ν hI hp
  obtain ⟨c1, h1, e1, e2, e3, e4⟩ := shR7_ok c hc ν hI hp
  have t : ∀ b : SB, b.den ν = true ∨ b.den ν = false := fun b => by cases b.den ν <;> simp
  simp only [shR7, List.mem_cons, List.not_mem_nil, or_false] at h1
  rcases h1 with rfl | rfl
  · have h := (rightB_den ν 1 (.var 0) (.var 1)).1 (pcAt e4 0 rfl)
    obtain ⟨g1, g2, g3⟩ := h
    simp only [SI.den] at g1 g2 g3
    refine ⟨_, List.mem_cons_self .., e1, e2, e3, pcDen_cons ((powB_den ν (.var 1)).2 g3) (pcDen_cons (lt_of ?_) (pcDen_one (lt_of ?_)))⟩
    · simp only [SI.den, Bool.false_eq_true, iff_false]; omega
    · simp only [SI.den, iff_true]; omega
  · have h := (rightB_no ν 1 (.var 0) (.var 1)).1 (pcAt e4 0 rfl)
    rcases t (powB (.var 1)) with p | p
    · rcases t (.lt (.var 0) (.lit 0)) with q | q
      · exact ⟨_, List.mem_of_getElem? (show shS7R[2]? = some _ from rfl), e1, e2, e3, pcDen_cons p (pcDen_one q)⟩
      · rcases t (topR 1 (.var 0) (.var 1)) with r | r
        · refine (h ⟨?_, ?_, (powB_den ν (.var 1)).1 p⟩).elim
          · simp only [SB.den, decide_eq_false_iff_not] at q; simp only [SI.den] at q ⊢; omega
          · simp only [topR, SB.den, decide_eq_true_eq] at r; simp only [SI.den] at r ⊢; omega
        · exact ⟨_, List.mem_of_getElem? (show shS7R[3]? = some _ from rfl), e1, e2, e3, pcDen_cons p (pcDen_cons q (pcDen_one r))⟩
    · exact ⟨_, List.mem_of_getElem? (show shS7R[1]? = some _ from rfl), e1, e2, e3, pcDen_one p⟩
theorem rightS7_ok {O : Orac} {G : Type} {I : In G} (oo : OOK Tryz.prog O I) : OOK Tryz.prog (O.withCallF fR7 (sumK Tryz.prog tR7 shS7R)) I := withCallF_ok oo (sum_okC pr noOrac_ok runR7 shS7R_ok oo)
theorem dq2_ok {O : Orac} (oo : OOK Tryz.prog O inM) : OOK Tryz.prog (O.withCallF fDq (sumK Tryz.prog tDq (splitL shDq))) inM := withCallF_ok oo (sum_okC pr oDq_ok runDq (splitL_ok shDq_ok) oo)
theorem rg2_ok {O : Orac} (oo : OOK Tryz.prog O inM) : OOK Tryz.prog (O.withCallF fRg (sumK Tryz.prog tRg (splitL shRg))) inM := withCallF_ok oo (sum_okC pr oRg_ok runRg (splitL_ok shRg_ok) oo)
theorem ref72_ok {O : Orac} (oo : OOK Tryz.prog O inM) : OOK Tryz.prog (O.withCallF fQ7 (sumK Tryz.prog tQ7 (splitL shQ7))) inM := withCallF_ok oo (sum_okC pr oQ7_ok runQ7 (splitL_ok shQ7_ok) oo)
theorem ref82_ok {O : Orac} (oo : OOK Tryz.prog O inM) : OOK Tryz.prog (O.withCallF fQ8 (sumK Tryz.prog tQ8 (splitL shQ8))) inM := withCallF_ok oo (sum_okC pr oQ8_ok runQ8 (splitL_ok shQ8_ok) oo)
end Go.Proofs.YtiofchhmdkhfoaaGreat
end

section
namespace Go.Proofs.YtiofchhmdkhfoaaGreat
open Go Go.Sy Go.RowKit

def fLc : Nat := 3
def argsLc (kd : SI) (v : SV) : List SV := [v, .agg [.int .i64 kd, .int .i64 (.var 10), .int .i64 (.var 11)]]
def vwLc : SV := .sl 0 (.var 8) (.len (.var 0)) (.var 9)
def pcLc : PC := [(.lt (.var 8) (.lit 0), false), (.lt (.var 9) (.len (.var 0)), false)]
def hpLc : Heap := [(0, .view .u64 (.var 8) (.var 0))]
def oLc (P : Program) : Orac := ((((((((((((noOrac.withOp (opSliceT P)).withOp (opAppendW P)).withOp (opLoadS P)).withOp (opIface P)).withOp (opInvoke P)).withCall fA13 trueK).withCallF fDq (sumK P tDq (splitL shDq))).withCallF fRg (sumK P tRg (splitL shRg))).withCallF fR7 (sumK P tR7 shS7R)).withCallF fQ7 (sumK P tQ7 (splitL shQ7))).withCallF fQ8 (sumK P tQ8 (splitL shQ8))).withCallF 10 (kSame P)) |>.pruned P
/-! the ways in which it may begin -/
def c1 : SB := .lt (.var 11) (.lit 2)
def c2 : SB := .lt (.lit 256) (.var 11)
def c3 : SB := powB (.var 11)
def c3b : SB := .eq (.bits 0 .i64 (.var 11) (.sub (.var 11) (.lit 1))) (.lit 0)
def c4 : SB := .lt (.var 10) (.lit 0)
def c5 : SB := topR 1 (.var 10) (.var 11)
def c6 : SB := .lt (.add (.add (.var 10) (.var 11)) (.lit 1)) (.len (.var 0))
def powLc : PC := [(c3b, true), (c3, true), (c2, false), (c1, false)]
def fitLc : PC := (c6, true) :: (c5, true) :: (c4, false) :: powLc
def manyC (kd : Nat) : SI := if Nat.beq kd 0 then .wrap .i64 (.wrap .u64 (.sub (.nth (.var 0) (.add (.var 10) (.lit 1))) (.nth (.var 0) (.var 10))))
  else .wrap .i64 (.wrap .i32 (.wrap .u32 (.sub (.wrap .u32 (.nth (.var 0) (.add (.var 10) (.lit 1)))) (.wrap .u32 (.nth (.var 0) (.var 10))))))
def lowC (kd : Nat) : SI := .lit (if Nat.beq kd 0 then -1 else 0)
def waysLc (kd : Nat) : List PC := [
  [(c3, false), (c1, true)],
  [(c3, false), (c2, true), (c1, false)],
  [(c3b, false), (c3, false), (c2, false), (c1, false)],
  (c4, true) :: powLc,
  (c5, false) :: (c4, false) :: powLc,
  (c6, false) :: (c5, true) :: (c4, false) :: powLc,
  (.lt (.var 11) (manyC kd), true) :: fitLc,
  (.lt (manyC kd) (lowC kd), true) :: (.lt (.var 11) (manyC kd), false) :: fitLc,
  (.lt (.lit 0) (manyC kd), false) :: (.lt (manyC kd) (lowC kd), false) :: (.lt (.var 11) (manyC kd), false) :: fitLc,
  (.lt (.lit 0) (manyC kd), true) :: (.lt (manyC kd) (lowC kd), false) :: (.lt (.var 11) (manyC kd), false) :: fitLc]
def wayLc (kd k : Nat) : PC := (((waysLc kd)[k]?).getD []) ++ pcLc
/-- of another kind -/
def pcLx : PC := [(.eq (.var 13) (.lit 0), false), (.eq (.var 13) (.lit 1), false)]
/-- the leaves that do not say true at sight -/
def restLc (o : Option (List CLeaf)) : Option (List CLeaf) := o.map fun l => (l.filter fun c => !c.yes).map fun c => { c with hp := [] }
end Go.Proofs.YtiofchhmdkhfoaaGreat
end

section
namespace Go.Proofs.YtiofchhmdkhfoaaGreat
open Go Go.Sy Go.RowKit

def qLc0 : SL := (.app (.var 0) (.drop (.rep (.len (.var 0)) (.lit 0)) (.len (.var 0))))
def qLc1 : SL := (.take (.drop (.var 0) (.var 10)) (.sub (.add (.add (.var 10) (.var 11)) (.lit 2)) (.var 10)))
def qLc2 : SB := (.or (.eq (.var 11) (.lit 2)) (.or (.eq (.var 11) (.lit 4)) (.or (.eq (.var 11) (.lit 8)) (.or (.eq (.var 11) (.lit 16)) (.or (.eq (.var 11) (.lit 32)) (.or (.eq (.var 11) (.lit 64)) (.or (.eq (.var 11) (.lit 128)) (.eq (.var 11) (.lit 256)))))))))
def qLc3 : SI := (.wrap .i64 (.wrap .i32 (.wrap .u32 (.sub (.wrap .u32 (.nth (.var 0) (.add (.var 10) (.lit 1)))) (.wrap .u32 (.nth (.var 0) (.var 10)))))))
def qLc4 : SI := (.wrap .i32 (.wrap .u32 (.sub (.wrap .u32 (.nth qLc0 (.add (.var 10) (.lit 1)))) (.wrap .u32 (.nth qLc0 (.var 10))))))
def qLc5 : SI := (.wrap .i64 (.wrap .u64 (.sub (.nth (.var 0) (.add (.var 10) (.lit 1))) (.nth (.var 0) (.var 10)))))
def qLc6 : SI := (.wrap .i64 (.wrap .u64 (.sub (.nth qLc0 (.add (.var 10) (.lit 1))) (.nth qLc0 (.var 10)))))
def qLc7 : SB := (.eq (.bits 0 .i64 (.var 11) (.sub (.var 11) (.lit 1))) (.lit 0))
def qLc8 : SB := (.lt (.add (.add (.var 10) (.var 11)) (.lit 1)) (.len (.var 0)))
def qLc9 : SB := (.lt (.var 10) (.sub (.lit 65535) (.mul (.lit 1) (.var 11))))
def qLc10 : SB := (.lt (.var 9) (.add (.add (.var 10) (.var 11)) (.lit 2)))
def qLc11 : SI := (.wrap .i32 (.wrap .u32 (.sub (.wrap .u32 (.nth qLc1 (.lit 1))) (.wrap .u32 (.nth qLc1 (.lit 0))))))
def qLc12 : SB := (.or (.eq (.len qLc1) (.lit 4)) (.or (.eq (.len qLc1) (.lit 6)) (.or (.eq (.len qLc1) (.lit 10)) (.or (.eq (.len qLc1) (.lit 18)) (.or (.eq (.len qLc1) (.lit 34)) (.or (.eq (.len qLc1) (.lit 66)) (.or (.eq (.len qLc1) (.lit 130)) (.eq (.len qLc1) (.lit 258)))))))))
def qLc13 : SL := (.gl 0 (.app 42 (.var 0) (.var 0) (.var 10) (.var 11) (.nth qLc0 (.var 10)) (.wrap .i64 (.wrap .i32 (.wrap .u32 (.sub (.wrap .u32 (.nth qLc0 (.wrap .i64 (.add (.var 10) (.lit 1))))) (.wrap .u32 (.nth qLc0 (.var 10))))))) qLc0) (.lit 0) (.lit 0))
def qLc14 : SI := (.wrap .i64 (.wrap .u64 (.sub (.nth qLc1 (.lit 1)) (.nth qLc1 (.lit 0)))))
def qLc15 : SL := (.gl 0 (.app 40 (.var 0) (.var 0) (.var 10) (.var 11) (.nth qLc0 (.var 10)) (.wrap .i64 (.wrap .u64 (.sub (.nth qLc0 (.wrap .i64 (.add (.var 10) (.lit 1)))) (.nth qLc0 (.var 10))))) qLc0) (.lit 0) (.lit 0))
def qLc16 : SL := (.gl 0 (.app 42 (.var 0) (.var 0) (.lit 0) (.sub (.len qLc1) (.lit 2)) (.nth qLc1 (.lit 0)) (.wrap .i64 qLc11) qLc1) (.lit 0) (.lit 0))
def qLc17 : SL := (.gl 0 (.app 40 (.var 0) (.var 0) (.lit 0) (.sub (.len qLc1) (.lit 2)) (.nth qLc1 (.lit 0)) qLc14 qLc1) (.lit 0) (.lit 0))
def qLc18 : SB := (.eq (.sub (.add (.add (.var 10) (.var 11)) (.lit 2)) (.var 10)) (.len qLc1))
end Go.Proofs.YtiofchhmdkhfoaaGreat
end
