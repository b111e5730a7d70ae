/- The call coachyardref12.Init: the cells of a config that may be. -/
import Derived.Test.YtoogepoalbhlhaaLwRef6
import Derived.Test.YtoogepoalbhlhaaLwPlan
import Derived.Test.YtoogepoalbhlhaaSy28
set_option linter.unusedVariables false
set_option linter.unusedSimpArgs false
namespace Go.Proofs.Ytoogepoalbhlhaa
open Go Go.Sy Go.RowKit

def ar12 : SL := arX (.add (.var 3) (.lit 1)) (.lit 0) (.var 3) (.var 3)
def pc12 : PC := [(SB.lt (((SI.wrap IntKind.i64 ((SI.lit 1).add (SI.var 0))).nat.add ((((SI.len ((ar12).take ((SI.var 3).add (SI.lit 1)).nat)).add (SI.wrap IntKind.i64 ((SI.lit 2).mul (SI.var 3))).nat).add (SI.lit 1)).add (SI.lit 1))).add (SI.wrap IntKind.i64 ((SI.var 0).mul (SI.wrap IntKind.i64 ((SI.var 2).add (SI.lit 2)))))) (SI.lit 1099511627776), true), (SB.lt (SI.wrap IntKind.i64 ((SI.var 0).mul (SI.wrap IntKind.i64 ((SI.var 2).add (SI.lit 2))))) (SI.lit 0), false), (SB.lt ((SI.wrap IntKind.i64 ((SI.lit 1).add (SI.var 0))).nat.add ((((SI.len ((ar12).take ((SI.var 3).add (SI.lit 1)).nat)).add (SI.wrap IntKind.i64 ((SI.lit 2).mul (SI.var 3))).nat).add (SI.lit 1)).add (SI.lit 1))) (SI.lit 1099511627776), true), (SB.lt ((((SI.len ((ar12).take ((SI.var 3).add (SI.lit 1)).nat)).add (SI.lit 1)).add (SI.lit 1)).add (SI.wrap IntKind.i64 ((SI.lit 2).mul (SI.var 3)))) (SI.lit 1099511627776), true), (SB.lt (SI.wrap IntKind.i64 ((SI.lit 2).mul (SI.var 3))) (SI.lit 0), false), (SB.lt ((SI.lit 2).add (SI.len ((ar12).take ((SI.var 3).add (SI.lit 1)).nat))) (SI.lit 1099511627776), true), (SB.lt (SI.len (ar12)) ((SI.var 3).add (SI.lit 1)).nat, false), (SB.lt ((SI.var 3).add (SI.lit 1)).nat (SI.lit 0), false), (SB.lt (SI.wrap IntKind.i64 ((SI.lit 1).add (SI.var 0))) (SI.lit 1073741824), true), (SB.lt (SI.wrap IntKind.i64 ((SI.lit 1).add (SI.var 0))) (SI.lit 0), false)] ++ [(.lt (.var 3) (.lit 2), false), (.lt (.lit 4096) (.var 3), false)]
def l12 : SL := (((SL.rep (SI.wrap IntKind.i64 ((SI.lit 1).add (SI.var 0))) (SI.lit 0)).app (SL.cons (SI.lit 1) (SL.cons (SI.lit 1) (((ar12).take ((SI.var 3).add (SI.lit 1)).nat).app (SL.rep (SI.wrap IntKind.i64 ((SI.lit 2).mul (SI.var 3))) (SI.lit 0)))))).app (SL.rep (SI.wrap IntKind.i64 ((SI.var 0).mul (SI.wrap IntKind.i64 ((SI.var 2).add (SI.lit 2))))) (SI.lit 0)))
def or12 : Orac := noOrac.withCall 49 (ref6K 51)
theorem or12_ok : OOK Try.prog or12 inM := ref6K_ok noOrac_ok
def cap12 : SI := .var (LO + (2 * 256 + 7) * (LO / K0))
def run12 : Option (List (Bool × PC × SI × SL × SI)) := some [(false, pc12, SI.mkLen l12, l12, cap12)]
theorem run_ref12 : freshDOf 51 (runX Try.prog or12 39 [cfgX] pc12 []) = run12 := by kernel_rfl

/-- The cells of a config that may be. -/
def list12 (a c d : Int) : List Int := (List.replicate (1 + a).toNat 0 ++ (1 :: 1 :: (aG (d + 1) 0 d d ++ List.replicate (2 * d).toNat 0))) ++ List.replicate (a * (c + 2)).toNat 0

/-- The sums of a config that may be do not overflow. -/
theorem ok_wraps {a b c d : Int} (h : OkC a b c d) : IntKind.i64.wrap (1 + a) = 1 + a ∧ IntKind.i64.wrap (2 * d) = 2 * d ∧ IntKind.i64.wrap (c + 2) = c + 2 ∧ IntKind.i64.wrap (a * (c + 2)) = a * (c + 2) ∧ 0 ≤ a * (c + 2) ∧ a * (c + 2) ≤ 4128 := by
  unfold OkC at h
  obtain ⟨h1, h2, _, h4, h5, h6⟩ := h
  have hm : 0 ≤ a * (c + 2) ∧ a * (c + 2) ≤ 4128 := by
    rcases h4 with rfl | rfl | rfl | rfl | rfl | rfl | rfl | rfl <;> omega
  refine ⟨wrapS _ ?_ ?_, wrapS _ ?_ ?_, wrapS _ ?_ ?_, wrapS _ ?_ ?_, hm.1, hm.2⟩ <;> omega

theorem l12_den {ν : Env Gh} (hI : ν.I = inM) (h : OkC (ν.i 0) (ν.i 1) (ν.i 2) (ν.i 3)) : l12.den ν = list12 (ν.i 0) (ν.i 2) (ν.i 3) := by
  obtain ⟨w1, w2, w3, w4, _, _⟩ := ok_wraps h
  simp only [l12, ar12, SL.den, SI.den, arX_den hI, w1, w2, w3, w4, Int.toNat_natCast, list12]
  rw [List.take_of_length_le (by rw [aG_length]; exact Nat.le_refl _)]
theorem pc12_of {ν : Env Gh} (hI : ν.I = inM) (h : OkC (ν.i 0) (ν.i 1) (ν.i 2) (ν.i 3)) : pcDen ν pc12 := by
  obtain ⟨w1, w2, w3, w4, w5, w6⟩ := ok_wraps h
  have h' := h
  unfold OkC at h'
  obtain ⟨h1, h2, _, h4, h5, h6⟩ := h'
  simp only [pc12, List.cons_append, List.nil_append, pcDen_cons_iff, pcDen_nil_iff, SB.den, decide_eq_true_eq, decide_eq_false_iff_not]
  simp only [SI.den, SL.den, ar12, arX_den hI, w1, w2, w3, w4, Int.toNat_natCast, List.length_take, aG_length]
  refine ⟨?_, ?_, ?_, ?_, ?_, ?_, ?_, ?_, ?_, ?_, ?_, ?_, trivial⟩ <;> omega

set_option maxRecDepth 100000 in
theorem init12_calls (a b c d : Int) (h : OkC a b c d) : FreshD Try.prog 39 51 [.agg #[.int .i64 a, .int .i64 b, .int .i64 c, .int .i64 d]] (list12 a c d) := by
  intro w
  have e : (denL (envG (fun | 0 => a | 1 => b | 2 => c | _ => d) (fun _ => [])) (fun _ => 0) [cfgX]).toArray = #[.agg #[.int .i64 a, .int .i64 b, .int .i64 c, .int .i64 d]] := by simp [denL, SV.den, SI.den, cfgX, envG]
  show Calls Try.prog 39 #[.agg #[.int .i64 a, .int .i64 b, .int .i64 c, .int .i64 d]] w _
  rw [← e]
  refine freshD_calls pr or12_ok (run_ref12.trans rfl) w _ _ _ rfl (pc12_of rfl h) ?_
  intro x hx ν hag hI hp
  have i0 : ν.i 0 = a := hag 0 (out_LO (by omega))
  have i1 : ν.i 1 = b := hag 1 (out_LO (by omega))
  have i2 : ν.i 2 = c := hag 2 (out_LO (by omega))
  have i3 : ν.i 3 = d := hag 3 (out_LO (by omega))
  have hx := List.mem_singleton.1 hx
  subst hx
  refine ⟨rfl, fun w' k rest hb hk hh hl hm => ?_⟩
  have hd := l12_den hI (by rw [i0, i1, i2, i3]; exact h)
  rw [i0, i2, i3] at hd
  simp only at hh hl hm
  rw [hd] at hh hl
  refine ⟨k, rest, ?_, hk, hh, by omega, hb⟩
  simp only [SI.mkLen_den, hd, Int.toNat_natCast]
  rw [hl, Int.toNat_natCast]

def r12X (a c d : SI) : SL := .app (.app (.rep (.add (.lit 1) a) (.lit 0)) (.cons (.lit 1) (.cons (.lit 1) (.app (arX (.add d (.lit 1)) (.lit 0) d d) (.rep (.mul (.lit 2) d) (.lit 0)))))) (.rep (.mul a (.add c (.lit 2))) (.lit 0))
theorem r12X_den {ν : Env Gh} (hI : ν.I = inM) (a c d : SI) : (r12X a c d).den ν = list12 (a.den ν) (c.den ν) (d.den ν) := by
  simp only [r12X, SL.den, SI.den, arX_den hI, list12]
def init12K (tyR lo : Nat) (args : List SV) (pc : PC) (hp : Heap) : Option (List CLeaf) := match args with
  | [.agg [.int .i64 a, .int .i64 b, .int .i64 c, .int .i64 d]] => freshDK tyR lo (r12X a c d) (.len (r12X a c d)) [(okSB a b c d, false)] pc hp
  | _ => none
set_option maxRecDepth 100000 in
theorem init12K_ok {O : Orac} (oo : OOK Try.prog O inM) : OOK Try.prog (O.withCall 39 (init12K 51)) inM := by
  refine withCall_ok oo ?_
  intro lo args pc hp cs h sz hsz B ν ρ w R hI hpc hw hl
  unfold init12K at h
  split at h
  · rename_i a b c d
    have e : denL ν ρ [SV.agg [.int .i64 a, .int .i64 b, .int .i64 c, .int .i64 d]] = [.agg #[.int .i64 (a.den ν), .int .i64 (b.den ν), .int .i64 (c.den ν), .int .i64 (d.den ν)]] := by simp [denL, SV.den]
    rw [e]
    refine freshDK_ok h hsz (xs := list12 (a.den ν) (c.den ν) (d.den ν)) hpc hw hl (fun hb => ?_)
    have hb := hb _ (List.mem_singleton.2 rfl)
    simp only [okSB_den, ne_eq, decide_eq_false_iff_not, Decidable.not_not] at hb
    exact ⟨init12_calls _ _ _ _ hb, r12X_den hI _ _ _, by simp only [SI.den, r12X_den hI]⟩
  · cases h
end Go.Proofs.Ytoogepoalbhlhaa
