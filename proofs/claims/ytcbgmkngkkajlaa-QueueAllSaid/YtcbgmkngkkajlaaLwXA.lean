/- What the executor asks of the program: the order of evaluation is drawn, and no function is named as the runtime's count of goroutines. -/
import Derived.Test.YtcbgmkngkkajlaaSyC
import Derived.KernelRfl
import Derived.Test.YtcbgmkngkkajlaaProg
import Derived.Test.YtcbgmkngkkajlaaSyD
import Derived.Test.YtcbgmkngkkajlaaSyA
import Derived.Test.YtcbgmkngkkajlaaSyH
import Derived.Test.YtcbgmkngkkajlaaSyK
set_option linter.unusedVariables false
set_option linter.unusedSimpArgs false

section
namespace Go.Proofs.Ytcbgmkngkkajlaa
open Go Go.Sy

theorem mixed : Try.prog.follows .mixedOrders = true := by kernel_rfl
theorem ng : ∀ (f : Nat) (fn : Func), Try.prog.funcs[f]? = some fn → (fn.name == "runtime.NumGoroutine") = false := by
  have h : Try.prog.funcs.all (fun fn => !(fn.name == "runtime.NumGoroutine")) = true := by kernel_rfl
  intro f fn hf
  have := Array.all_eq_true'.1 h fn (Array.mem_of_getElem? hf)
  simpa using this
theorem pr : PR Try.prog := ⟨mixed, ng⟩

theorem own : ownKnob Try.prog.godebug = none := by kernel_rfl

/-- Numbers, lists; no ghost. -/
def envOf (i : Nat → Int) (b : Nat → Bool) (l : Nat → List Int) (e : Nat → Addr) : Env Unit := ⟨In.none, fun _ => (), i, b, fun _ => .bool false, l, e, fun _ => rfl⟩
def noAddr : Nat → Addr := fun _ => ⟨0, 0, none⟩
end Go.Proofs.Ytcbgmkngkkajlaa
end

section
namespace Go.Proofs.Ytcbgmkngkkajlaa
open Go Go.Sy

def sgnB : List Char := List.map Char.ofNat [52,97,98,54,99,50,51,52,48,48,53,54,55,49,55,102,56,101,98,100,52,57,101,55,57,55,100,50,97,98,49,50,101,56,54,56,48,98,97,57,101,51,98,99,48,54,51,51,57,50,50,101,98,49,100,101,56,102,49,55,98,102,97,54]
def sgnR : List Char := List.map Char.ofNat [97,116,32,99,111,97,99,104,121,97,114,100,47,99,111,97,99,104,121,97,114,100,108,97,119,48,57,46,81,117,101,117,101,73,110,105,116,115,32,99,111,97,99,104,121,97,114,100,47,99,111,97,99,104,121,97,114,100,108,97,119,48,57,46,81,117,101,117,101,65,108,108,32,99,111,97,99,104,121,97,114,100,47,99,111,97,99,104,121,97,114,100,108,97,119,48,57,46,81,117,101,117,101,65,108,111,110,101,32,99,111,97,99,104,121,97,114,100,47,99,111,97,99,104,121,97,114,100,108,97,119,48,57,46,81,117,101,117,101,80,108,97,121,115,32,99,111,97,99,104,121,97,114,100,47,99,111,97,99,104,121,97,114,100,108,97,119,48,57,46,81,117,101,117,101,79,114,100,101,114]
theorem sign : Try.prog.initOrder = String.ofList (signOf sgnB sgnR) := by kernel_rfl
theorem words : behindMainWord (wordsSigns Try.prog.initOrder.toList) = sgnC :: wordsSigns sgnR := words_of sign (by decide +kernel) (by decide +kernel)
theorem facts : ProgFacts Try.prog where
  laid := by kernel_rfl
  rowed := by kernel_rfl
  stops := by kernel_rfl
  knobs := by kernel_rfl
  keys := by kernel_rfl
  heard := by kernel_rfl
  enter := mayEnter_of words (by kernel_rfl) (by kernel_rfl) (by kernel_rfl)
  final := liftsFinal_of words
  make := make_of words
end Go.Proofs.Ytcbgmkngkkajlaa
end

section
namespace Go.Proofs.Ytcbgmkngkkajlaa
open Go Go.Sy Go.RowKit

theorem wrapS (x : Int) (h1 : -9223372036854775808 ≤ x) (h2 : x ≤ 9223372036854775807) : IntKind.i64.wrap x = x := by
  rw [IntKind.wrap_i64]; omega
theorem wrapU (x : Int) : IntKind.u64.wrap x = x % 18446744073709551616 := by
  rw [IntKind.wrap_u64]
theorem list_ext {xs ys : List Int} (hl : xs.length = ys.length) (h : ∀ j : Nat, (j : Int) < xs.length → xs.getD j 0 = ys.getD j 0) : xs = ys := by
  refine List.ext_getElem hl fun j h1 h2 => ?_
  have := h j (by omega)
  simpa [List.getD_eq_getElem?_getD, h1, h2] using this
theorem bits_all : (List.range 257).all (fun n => decide (n < 2) || (decide (bitsDen 0 .i64 n (IntKind.i64.wrap (n - 1)) = 0) == (n == 2 || n == 4 || n == 8 || n == 16 || n == 32 || n == 64 || n == 128 || n == 256))) = true := by decide +kernel
/-- The sizes that may be. -/
def Pow (c : Int) : Prop := c = 2 ∨ c = 4 ∨ c = 8 ∨ c = 16 ∨ c = 32 ∨ c = 64 ∨ c = 128 ∨ c = 256
theorem bits_iff (c : Int) (h1 : 2 ≤ c) (h2 : c ≤ 256) : bitsDen 0 .i64 c (IntKind.i64.wrap (c - 1)) = 0 ↔ Pow c := by
  obtain ⟨n, rfl⟩ : ∃ n : Nat, c = n := ⟨c.toNat, by omega⟩
  have h := List.all_eq_true.1 bits_all n (List.mem_range.2 (by omega))
  simp only [Bool.or_eq_true, decide_eq_true_eq, beq_iff_eq] at h
  rcases h with h | h
  · omega
  · unfold Pow
    constructor
    · intro h3
      have h4 : decide (bitsDen 0 .i64 (n : Int) (IntKind.i64.wrap ((n : Int) - 1)) = 0) = true := decide_eq_true h3
      rw [h4] at h
      have := h.symm
      simp only [Bool.or_eq_true, beq_iff_eq] at this
      omega
    · intro h3
      have : (n == 2 || n == 4 || n == 8 || n == 16 || n == 32 || n == 64 || n == 128 || n == 256) = true := by
        simp only [Bool.or_eq_true, beq_iff_eq]; omega
      rw [this] at h
      exact of_decide_eq_true h
/-- A mask of a power of two is a rest. -/
theorem mask_mod (t c : Int) (h : Pow c) : bitsDen 0 .u64 t (IntKind.u64.wrap (IntKind.i64.wrap (c - 1))) = t % 18446744073709551616 % c := by
  have key : ∀ k : Nat, k ≤ 8 → bitsDen 0 .u64 t (((2 ^ k - 1 : Nat)) : Int) = t % 18446744073709551616 % ((2 ^ k : Nat) : Int) := by
    intro k hk
    have e1 : (BitVec.ofInt 64 t).toNat = (t % 18446744073709551616).toNat := by
      rw [BitVec.toNat_ofInt]; rfl
    have hlt : 2 ^ k ≤ 256 := by
      calc 2 ^ k ≤ 2 ^ 8 := Nat.pow_le_pow_right (by omega) hk
        _ = 256 := rfl
    have hpos : 0 < 2 ^ k := Nat.pow_pos (by omega)
    have e2 : (BitVec.ofInt 64 ((2 ^ k - 1 : Nat) : Int)).toNat = 2 ^ k - 1 := by
      rw [BitVec.toNat_ofInt]; omega
    show IntKind.u64.wrap ((BitVec.ofInt 64 t &&& BitVec.ofInt 64 ((2 ^ k - 1 : Nat) : Int)).toNat : Int) = _
    rw [wrapU, BitVec.toNat_and, e1, e2, Nat.and_two_pow_sub_one_eq_mod]
    have h1 : 0 ≤ t % 18446744073709551616 := Int.emod_nonneg _ (by omega)
    generalize t % 18446744073709551616 = u at h1 ⊢
    obtain ⟨n, rfl⟩ : ∃ n : Nat, u = n := ⟨u.toNat, by omega⟩
    simp only [Int.toNat_natCast]
    have h2 : n % 2 ^ k < 2 ^ k := Nat.mod_lt _ hpos
    have h3 : ((n : Int) % ((2 ^ k : Nat) : Int)) = ((n % 2 ^ k : Nat) : Int) := rfl
    rw [h3]
    omega
  have w1 : IntKind.u64.wrap (IntKind.i64.wrap (c - 1)) = c - 1 := by
    rw [wrapU]
    unfold Pow at h
    rw [wrapS _ (by omega) (by omega)]
    omega
  rw [w1]
  unfold Pow at h
  rcases h with rfl | rfl | rfl | rfl | rfl | rfl | rfl | rfl
  · exact key 1 (by omega)
  · exact key 2 (by omega)
  · exact key 3 (by omega)
  · exact key 4 (by omega)
  · exact key 5 (by omega)
  · exact key 6 (by omega)
  · exact key 7 (by omega)
  · exact key 8 (by omega)
theorem slotsG_length (l : List Int) (a b c d m o s : Int) : (slotsG l a b c d m o s).length = d.toNat := by simp [slotsG]
theorem slotsG_step (l : List Int) (a b c m o s : Int) (d : Nat) : slotsG l a b c (d + 1 : Nat) m o s = slotsG l a b c d m o s ++ [l.getD (a + o + s * ((c + d) % m % b)).toNat 0] := by
  simp [slotsG, List.range_succ]
theorem slotsG_get (l : List Int) (a b c m o s : Int) (d j : Nat) (h : j < d) : (slotsG l a b c d m o s)[j]? = some (l.getD (a + o + s * ((c + j) % m % b)).toNat 0) := by
  simp [slotsG, h]
/-! what may be, as a condition -/
def powB (c : SI) : SB := .or (.eq c (.lit 2)) (.or (.eq c (.lit 4)) (.or (.eq c (.lit 8)) (.or (.eq c (.lit 16)) (.or (.eq c (.lit 32)) (.or (.eq c (.lit 64)) (.or (.eq c (.lit 128)) (.eq c (.lit 256))))))))
def rightB (k : Int) (at' size : SI) : SB := .and (.not (.lt at' (.lit 0))) (.and (.lt at' (.sub (.lit 65535) (.mul (.lit k) size))) (powB size))
def Right (k at' size : Int) : Prop := 0 ≤ at' ∧ at' < 65535 - k * size ∧ Pow size
theorem powB_den {G : Type} (ν : Env G) (c : SI) : (powB c).den ν = true ↔ Pow (c.den ν) := by
  simp only [powB, SB.den, SI.den, Pow, Bool.or_eq_true, beq_iff_eq]
theorem rightB_den {G : Type} (ν : Env G) (k : Int) (a c : SI) : (rightB k a c).den ν = true ↔ Right k (a.den ν) (c.den ν) := by
  simp only [rightB, SB.den, Right, Bool.and_eq_true, powB_den, Bool.not_eq_true', decide_eq_false_iff_not, decide_eq_true_eq]
  simp only [SI.den]
  constructor
  · rintro ⟨h1, h2, h3⟩; exact ⟨by omega, by omega, h3⟩
  · rintro ⟨h1, h2, h3⟩; exact ⟨by omega, by omega, h3⟩
theorem rightB_no {G : Type} (ν : Env G) (k : Int) (a c : SI) : (rightB k a c).den ν = false ↔ ¬ Right k (a.den ν) (c.den ν) := by
  rw [← rightB_den]; cases (rightB k a c).den ν <;> simp
theorem Pow.le {c : Int} (h : Pow c) : 2 ≤ c ∧ c ≤ 256 := by unfold Pow at h; omega
end Go.Proofs.Ytcbgmkngkkajlaa
end

section
namespace Go.Proofs.Ytcbgmkngkkajlaa
open Go Go.Sy Go.RowKit

def oSm (P : Program) : Orac := ((noOrac.withOp (opSliceT P)).withOp (opAppendW P)).withOp (opLoadS P)
/-- all of a list's numbers lie in between -/
def rangeB (l : SL) (a b : Int) : SB := .gb 0 (.app 45 (.var 0) (.var 0) (.lit a) (.lit b) (.lit 0) (.lit 0) l) (.lit 0) (.lit 0)
/-- a walk that has ended -/
def overW (n j ty : Nat) : SBk := .cells [.int .i64 (.var (n + j)), .int .i64 (.var (n + j + 1)), .int .u64 (.var (n + j + 2)), .int .u64 (.var (n + j + 3)), .nilFunc, .bool (.lit false), .nilPtr, .nilFunc, .bool (.lit true), .int .i64 (.var (n + j + 4)), .int .u64 (.var (n + j + 5)), .nilSl, .nilSl] ty true
def ptrOf : SV → Nat
  | .ptr b _ => b
  | .sl b _ _ _ => b
  | _ => 0
def cellN (hp : Heap) (b k : Nat) : SV := match hget b hp with
  | some (.cells cs _ _) => (cs[k]?).getD .dead
  | _ => .dead
def setCell (b k : Nat) (v : SV) (hp : Heap) : Heap := match hget b hp with
  | some (.cells cs t x) => hset b (.cells (cs.set k v) t x) hp
  | _ => hp
def setList (b : Nat) (l : SL) (hp : Heap) : Heap := match hget b hp with
  | some (.row k _ c t) => hset b (.row k l c t) hp
  | _ => hp
def keepFr (ks : List Nat) (fr : List SV) : List SV := fr.zipIdx.map fun x => if ks.any (Nat.beq x.2) then x.1 else .dead
/-- What the frame leads to. -/
def insA (n : Nat) (l : List Nat) : List Nat := if l.any (Nat.beq n) then l else n :: l
def ptrs : List SV → List Nat → List Nat
  | [], ns => ns
  | .ptr b _ :: r, ns => ptrs r (insA b ns)
  | .sl b _ _ _ :: r, ns => ptrs r (insA b ns)
  | _ :: r, ns => ptrs r ns
def reachB (hp : Heap) (ns : List Nat) : List Nat := hp.foldl (fun ns x => if ns.any (Nat.beq x.1) then (match x.2 with | .cells cs _ _ => ptrs cs ns | _ => ns) else ns) ns
def reachK (hp : Heap) : Nat → List Nat → List Nat
  | 0, ns => ns
  | k + 1, ns => reachK hp k (reachB hp ns)
def reachL (L : Leaf) : Leaf := let ns := reachK L.hp L.hp.length (ptrs L.fr [])
  { L with hp := L.hp.filter fun x => ns.any (Nat.beq x.1) }
def qAt (l : List PC) (k : Nat) : PC := (l[k]?).getD []
def hdAt (l : List Tgt) (k : Nat) : Tgt := (l[k]?).getD ⟨.bad, [], [], []⟩
theorem pcAt {G : Type} {ν : Env G} {pc : PC} (h : pcDen ν pc) (k : Nat) {c : SB} {b : Bool} (hk : pc[k]? = some (c, b)) : c.den ν = b := h c b (List.mem_of_getElem? hk)
theorem lt_den {G : Type} {ν : Env G} {a c : SI} {b : Bool} (h : (SB.lt a c).den ν = b) : a.den ν < c.den ν ↔ b = true := by
  simp only [SB.den] at h
  rw [← h]
  exact decide_eq_true_iff.symm
theorem lt_of {G : Type} {ν : Env G} {a c : SI} {b : Bool} (h : a.den ν < c.den ν ↔ b = true) : (SB.lt a c).den ν = b := by
  simp only [SB.den]
  cases b
  · exact decide_eq_false (by simpa using h)
  · exact decide_eq_true (by simpa using h)
theorem range_den {ν : Env Gh} (hI : ν.I = inM) (l : SL) (a b : Int) : (rangeB l a b).den ν = true ↔ ∀ x ∈ l.den ν, a ≤ x ∧ x ≤ b := by
  simp only [rangeB, SB.den, SG.den, SI.den, hI, inM, xga]
  simp
theorem wu (x : Int) : IntKind.u64.wrap x = x % 18446744073709551616 := wrapU x
theorem one : (1 : Int).toNat = 1 := rfl
/-- A path turned, that is not met by any: all of it holds. -/
theorem bads_of {ν : Env Gh} {p : PC} (h : ∀ x ∈ p.map fun x => (x.1, !x.2), x.1.den ν ≠ x.2) : pcDen ν p := by
  intro c b hm
  have := h (c, !b) (List.mem_map.2 ⟨(c, b), hm, rfl⟩)
  revert this
  simp only
  cases c.den ν <;> cases b <;> simp
end Go.Proofs.Ytcbgmkngkkajlaa
end

section
namespace Go.Proofs.Ytcbgmkngkkajlaa
open Go Go.Sy Go.RowKit

theorem upG_length (s e : Int) : (upG s e).length = (e - s).toNat := by simp [upG]
theorem upG_self (s : Int) : upG s s = [] := by simp [upG]
theorem upG_step {s e : Int} (h : s ≤ e) : upG s e ++ [e] = upG s (e + 1) := by
  unfold upG
  have e1 : (e + 1 - s).toNat = (e - s).toNat + 1 := by omega
  rw [e1, List.range_succ, List.map_append]
  have e2 : s + (((e - s).toNat : Nat) : Int) = e := by omega
  simp only [List.map_cons, List.map_nil, e2]
theorem upG_mem {s e x : Int} (h : x ∈ upG s e) : s ≤ x ∧ x < e := by
  unfold upG at h
  obtain ⟨k, hk, rfl⟩ := List.mem_map.1 h
  have := List.mem_range.1 hk
  omega
theorem onesG_length (n s e : Int) : (onesG n s e).length = n.toNat := by simp [onesG]
theorem onesG_get (n s e : Int) (k : Nat) (h : k < (onesG n s e).length) : (onesG n s e)[k] = if s ≤ (k : Int) ∧ (k : Int) < e then 1 else 0 := by
  simp [onesG]
theorem onesG_at {n s e i : Int} (h0 : 0 ≤ i) (h1 : e ≤ i) : (onesG n s e).getD i.toNat 0 = 0 := by
  rw [List.getD_eq_getElem?_getD]
  by_cases h : i.toNat < (onesG n s e).length
  · rw [List.getElem?_eq_getElem h, Option.getD_some, onesG_get, if_neg (by omega)]
  · rw [List.getElem?_eq_none (by omega)]; rfl
theorem onesG_self (n s : Int) : List.replicate n.toNat 0 = onesG n s s := by
  refine List.ext_getElem (by simp [onesG_length]) fun k h h' => ?_
  rw [onesG_get, if_neg (by omega), List.getElem_replicate]
theorem onesG_set {n s e : Int} (h0 : 0 ≤ s) (h : s ≤ e) : (onesG n s e).set e.toNat 1 = onesG n s (e + 1) := by
  refine List.ext_getElem (by simp [onesG_length]) fun k h h' => ?_
  rw [List.getElem_set, onesG_get, onesG_get]
  by_cases c : e.toNat = k
  · rw [if_pos c, if_pos (by omega)]
  · rw [if_neg c]
    by_cases d : s ≤ (k : Int) ∧ (k : Int) < e
    · rw [if_pos d, if_pos (by omega)]
    · rw [if_neg d, if_neg (by omega)]
/-- what is next behind c - 1 -/
def nextC (N c : Int) : Int := if c ≤ N then c else 0
theorem iG_head {l : List Int} {a N f : Int} (h0 : 0 ≤ a) (h1 : a < l.length) : (iG l a N f (N + 1)).getD a.toNat 0 = nextC N f := by
  rw [List.getD_eq_getElem?_getD, List.getElem?_eq_getElem (by rw [iG_length]; omega), Option.getD_some, iG_get, if_pos (by omega)]
  rfl
theorem iG_node {l : List Int} {a N f c : Int} (h0 : 0 ≤ a) (h1 : a + N < l.length) (hf : 1 ≤ f) (hc : f ≤ c) (hN : c ≤ N) : (iG l a N f (N + 1)).getD (a + c).toNat 0 = nextC N (c + 1) := by
  rw [List.getD_eq_getElem?_getD, List.getElem?_eq_getElem (by rw [iG_length]; omega), Option.getD_some, iG_get, if_neg (by omega), if_pos (by omega)]
  unfold nextC
  by_cases h : c < N
  · rw [if_pos (by omega), if_pos (by omega)]; omega
  · rw [if_neg (by omega), if_neg (by omega)]
theorem wrapU32 (x : Int) (h1 : 0 ≤ x) (h2 : x < 4294967296) : IntKind.u32.wrap x = x := by
  rw [IntKind.wrap_u32]; omega
theorem nextC_bd {N c : Int} (h1 : 1 ≤ c) (hN : 1 ≤ N) : 0 ≤ nextC N c ∧ nextC N c ≤ N := by
  unfold nextC; split <;> omega
theorem iG_begin {n : Nat} {N f : Int} (h1 : 1 ≤ f) (h2 : f ≤ N) : (List.replicate n (0 : Int)).set 0 f = iG (List.replicate n 0) 0 N f f := by
  refine List.ext_getElem (by simp [iG_length]) fun k h h' => ?_
  rw [List.getElem_set, iG_get, List.getElem_replicate]
  have hk : (List.replicate n (0 : Int)).getD k 0 = 0 := by
    simp only [List.getD_eq_getElem?_getD, List.getElem?_replicate]; split <;> rfl
  rw [hk]
  by_cases c : 0 = k
  · rw [if_pos c, if_pos (by omega), if_pos h2]
  · rw [if_neg c, if_neg (by omega)]
    by_cases d : (0 : Int) < (k : Int) ∧ (k : Int) < 0 + f
    · rw [if_pos d, if_neg (by omega)]
    · rw [if_neg d]
theorem iG_last {n : Nat} {N f : Int} : iG (List.replicate n 0) 0 N f N = iG (List.replicate n 0) 0 N f (N + 1) := by
  refine List.ext_getElem (by simp [iG_length]) fun k h h' => ?_
  rw [iG_get, iG_get]
  have hk : (List.replicate n (0 : Int)).getD k 0 = 0 := by
    simp only [List.getD_eq_getElem?_getD, List.getElem?_replicate]; split <;> rfl
  rw [hk]
  by_cases c : (k : Int) = 0
  · rw [if_pos c, if_pos c]
  · rw [if_neg c, if_neg c]
    by_cases d : (0 : Int) < (k : Int) ∧ (k : Int) < 0 + N
    · have d2 : (0 : Int) < (k : Int) ∧ (k : Int) < 0 + (N + 1) := by omega
      rw [if_pos d, if_pos d2]
    · rw [if_neg d]
      by_cases e : (0 : Int) < (k : Int) ∧ (k : Int) < 0 + (N + 1)
      · have d2 : ¬ (f ≤ (k : Int) - 0 ∧ (k : Int) - 0 < N) := by omega
        rw [if_pos e, if_neg d2]
      · rw [if_neg e]
theorem iG_none {n : Nat} {N : Int} (hN : 0 ≤ N) : iG (List.replicate n 0) 0 N (N + 1) (N + 1) = List.replicate n 0 := by
  refine List.ext_getElem (by simp [iG_length]) fun k h h' => ?_
  rw [iG_get, List.getElem_replicate]
  have hk : (List.replicate n (0 : Int)).getD k 0 = 0 := by
    simp only [List.getD_eq_getElem?_getD, List.getElem?_replicate]; split <;> rfl
  rw [hk]
  by_cases c : (k : Int) = 0
  · rw [if_pos c, if_neg (by omega)]
  · rw [if_neg c]
    by_cases d : (0 : Int) < (k : Int) ∧ (k : Int) < 0 + (N + 1)
    · have d2 : ¬ (N + 1 ≤ (k : Int) - 0 ∧ (k : Int) - 0 < N) := by omega
      rw [if_pos d, if_neg d2]
    · rw [if_neg d]
theorem iG_all {M : List Int} {a N f : Int} (h0 : 0 ≤ a) (hN : 1 ≤ N) (hr : a + N < M.length) :
    List.take a.toNat M ++ (iG (List.replicate (N + 1).toNat 0) 0 N f (N + 1) ++ List.drop (a + (((N + 1).toNat : Nat) : Int)).toNat M) = iG M a N f (N + 1) := by
  have l1 : (List.take a.toNat M).length = a.toNat := by rw [List.length_take]; omega
  have l2 : (iG (List.replicate (N + 1).toNat 0) 0 N f (N + 1)).length = (N + 1).toNat := by rw [iG_length, List.length_replicate]
  have e2 : (a + (((N + 1).toNat : Nat) : Int)).toNat = a.toNat + (N + 1).toNat := by omega
  rw [e2]
  refine List.ext_getElem (by simp only [List.length_append, l1, l2, List.length_drop, iG_length]; omega) fun k h h' => ?_
  rw [iG_length] at h'
  rw [iG_get]
  by_cases c1 : k < a.toNat
  · rw [List.getElem_append_left (by omega), List.getElem_take, if_neg (by omega), if_neg (by omega), List.getD_eq_getElem?_getD, List.getElem?_eq_getElem h', Option.getD_some]
  · rw [List.getElem_append_right (by omega)]
    simp only [l1]
    by_cases c2 : k - a.toNat < (N + 1).toNat
    · rw [List.getElem_append_left (by omega), iG_get]
      have hk : (List.replicate (N + 1).toNat (0 : Int)).getD (k - a.toNat) 0 = 0 := by
        simp only [List.getD_eq_getElem?_getD, List.getElem?_replicate]; split <;> rfl
      rw [hk]
      have ek : ((k - a.toNat : Nat) : Int) = (k : Int) - a := by omega
      rw [ek]
      by_cases c3 : (k : Int) = a
      · rw [if_pos c3, if_pos (by omega)]
      · have d0 : ¬ ((k : Int) - a = 0) := by omega
        have d1 : (0 : Int) < (k : Int) - a ∧ (k : Int) - a < 0 + (N + 1) := by omega
        have d2 : a < (k : Int) ∧ (k : Int) < a + (N + 1) := by omega
        rw [if_neg c3, if_neg d0, if_pos d1, if_pos d2]
        simp only [Int.sub_zero]
    · rw [List.getElem_append_right (by omega), List.getElem_drop, if_neg (by omega), if_neg (by omega), List.getD_eq_getElem?_getD, List.getElem?_eq_getElem h', Option.getD_some]
      simp only [l2]
      congr 1
      omega
end Go.Proofs.Ytcbgmkngkkajlaa
end

section
namespace Go.Proofs.Ytcbgmkngkkajlaa
open Go Go.Sy Go.RowKit

theorem nodup_le : ∀ (n : Nat) (s : List Int), s.Nodup → (∀ k ∈ s, 1 ≤ k ∧ k ≤ (n : Int)) → s.length ≤ n
  | 0, s, _, h => by
    match s, h with
    | [], _ => exact Nat.le_refl _
    | a :: t, h => have := h a (List.mem_cons_self ..); omega
  | n + 1, s, hn, h => by
    by_cases hm : ((n + 1 : Nat) : Int) ∈ s
    · have h1 := nodup_le n (s.erase ((n + 1 : Nat) : Int)) (hn.erase _) (fun k hk => by
        obtain ⟨h2, h3⟩ := hn.mem_erase_iff.1 hk
        have := h k h3
        omega)
      rw [List.length_erase_of_mem hm] at h1
      omega
    · have := nodup_le n s hn (fun k hk => by
        have h2 := h k hk
        have : k ≠ ((n + 1 : Nat) : Int) := fun e => hm (e ▸ hk)
        omega)
      omega
/-- what the nodes hold -/
def outs (l : List Int) (a N : Int) (s : List Int) : List Int := s.map fun i => l.getD (a + 2 + N + i).toNat 0
theorem outs_length (l : List Int) (a N : Int) (s : List Int) : (outs l a N s).length = s.length := by simp [outs]
theorem outs_add (l : List Int) (a N : Int) (s : List Int) (k : Int) : outs l a N (s ++ [k]) = outs l a N s ++ [l.getD (a + 2 + N + k).toNat 0] := by simp [outs]
/-- on the way -/
structure VI (l : List Int) (a N u : Int) (s : List Int) : Prop where
  eq : vis l a N = visF l a N (N.toNat + 2 - s.length) u s
  nd : s.Nodup
  bd : ∀ k ∈ s, 1 ≤ k ∧ k ≤ N
theorem VI.len {l : List Int} {a N u : Int} {s : List Int} (h : VI l a N u s) (hN : 0 ≤ N) : (s.length : Int) ≤ N := by
  have := nodup_le N.toNat s h.nd (fun k hk => by have := h.bd k hk; omega)
  omega
theorem VI.nil (l : List Int) (a N : Int) : VI l a N (l.getD a.toNat 0) [] := ⟨rfl, List.nodup_nil, fun k hk => by cases hk⟩
theorem VI.fuel {l : List Int} {a N u : Int} {s : List Int} (h : VI l a N u s) (hN : 0 ≤ N) : ∃ f, N.toNat + 2 - s.length = f + 1 ∧ f = N.toNat + 2 - (s.length + 1) := by
  have := h.len hN
  exact ⟨N.toNat + 2 - (s.length + 1), by omega, rfl⟩
theorem VI.fine {l : List Int} {a N u : Int} {s : List Int} (h : VI l a N u s) (hN : 0 ≤ N) (h0 : u % 4294967296 = 0) (hs : s ≠ []) : vis l a N = some s := by
  obtain ⟨f, e, _⟩ := h.fuel hN
  rw [h.eq, e, visF, if_pos ⟨h0, hs⟩]
theorem VI.bad {l : List Int} {a N u : Int} {s : List Int} (h : VI l a N u s) (hN : 0 ≤ N) (h0 : ¬ (u % 4294967296 = 0 ∧ s ≠ [])) (hb : u % 4294967296 < 1 ∨ N < u % 4294967296 ∨ u % 4294967296 ∈ s) : vis l a N = none := by
  obtain ⟨f, e, _⟩ := h.fuel hN
  rw [h.eq, e, visF, if_neg h0, if_pos hb]
theorem VI.next {l : List Int} {a N u : Int} {s : List Int} (h : VI l a N u s) (hN : 0 ≤ N) (h1 : 1 ≤ u % 4294967296) (h2 : u % 4294967296 ≤ N) (h3 : u % 4294967296 ∉ s) :
    VI l a N (l.getD (a + 2 + 2 * N + u % 4294967296).toNat 0) (s ++ [u % 4294967296]) := by
  obtain ⟨f, e, ef⟩ := h.fuel hN
  refine ⟨?_, ?_, ?_⟩
  · rw [h.eq, e, visF, if_neg (by omega), if_neg (by rintro (c | c | c) <;> first | omega | exact h3 c), List.length_append, List.length_singleton, ← ef]
  · rw [List.nodup_append]
    exact ⟨h.nd, by simp, fun x hx y hy => by rw [List.mem_singleton.1 hy]; exact fun c => h3 (c ▸ hx)⟩
  · intro k hk
    rcases List.mem_append.1 hk with c | c
    · exact h.bd k c
    · rw [List.mem_singleton.1 c]; exact ⟨h1, h2⟩
theorem visT_some {l : List Int} {a N : Int} {s : List Int} (h : vis l a N = some s) : visT l a N = outs l a N s := by unfold visT; rw [h]; rfl
/-- a row of marks -/
structure Marks (m : List Int) (N : Int) (s : List Int) : Prop where
  len : (m.length : Int) = N + 1
  get : ∀ k : Int, 0 ≤ k → k ≤ N → m.getD k.toNat 0 = if k ∈ s then 1 else 0
theorem Marks.nil {N : Int} (hN : 0 ≤ N) : Marks (List.replicate (N + 1).toNat 0) N [] := by
  refine ⟨by rw [List.length_replicate]; omega, fun k h0 h1 => ?_⟩
  rw [if_neg (by simp), List.getD_eq_getElem?_getD, List.getElem?_replicate]
  split <;> rfl
theorem Marks.set {m : List Int} {N k : Int} {s : List Int} (h : Marks m N s) (h0 : 0 ≤ k) (h1 : k ≤ N) : Marks (m.set k.toNat 1) N (s ++ [k]) := by
  have := h.len
  refine ⟨by rw [List.length_set]; exact h.len, fun j j0 j1 => ?_⟩
  have hj := h.get j j0 j1
  rw [List.getD_eq_getElem?_getD] at hj ⊢
  rw [List.getElem?_set]
  by_cases c : k.toNat = j.toNat
  · have e : k = j := by omega
    rw [if_pos c, if_pos (by omega), if_pos (by rw [e]; simp)]
    rfl
  · have e : j ≠ k := by omega
    rw [if_neg c, hj]
    by_cases d : j ∈ s
    · rw [if_pos d, if_pos (List.mem_append_left _ d)]
    · rw [if_neg d, if_neg (by intro c; rcases List.mem_append.1 c with c | c; (exact d c); (exact e (List.mem_singleton.1 c)))]
/-- a part of a list that holds the queue -/
theorem visF_part {l : List Int} {a N : Int} (h0 : 0 ≤ a) (hN : 0 ≤ N) (h1 : a + 3 * N + 2 < l.length) : ∀ (f : Nat) (u : Int) (s : List Int), visF (List.take (3 * N + 3).toNat (List.drop a.toNat l)) 0 N f u s = visF l a N f u s
  | 0, _, _ => rfl
  | f + 1, u, s => by
    simp only [visF]
    split
    · rfl
    · split
      · rfl
      · rename_i h2 h3
        have e : (List.take (3 * N + 3).toNat (List.drop a.toNat l)).getD (0 + 2 + 2 * N + u % 4294967296).toNat 0 = l.getD (a + 2 + 2 * N + u % 4294967296).toNat 0 := by
          simp only [List.getD_eq_getElem?_getD, List.getElem?_take, List.getElem?_drop]
          rw [if_pos (by omega)]
          congr 2
          omega
        rw [e]
        exact visF_part h0 hN h1 f _ _
theorem vis_part {l : List Int} {a N : Int} (h0 : 0 ≤ a) (hN : 0 ≤ N) (h1 : a + 3 * N + 2 < l.length) : vis (List.take (3 * N + 3).toNat (List.drop a.toNat l)) 0 N = vis l a N := by
  unfold vis
  rw [visF_part h0 hN h1]
  congr 1
  simp only [List.getD_eq_getElem?_getD, List.getElem?_take, List.getElem?_drop]
  rw [if_pos (by omega)]
  congr 2
theorem visF_bd {l : List Int} {a N : Int} : ∀ (f : Nat) (u : Int) (s : List Int), (∀ k ∈ s, 1 ≤ k ∧ k ≤ N) → ∀ t, visF l a N f u s = some t → ∀ k ∈ t, 1 ≤ k ∧ k ≤ N
  | 0, _, _, _, _, h => by cases h
  | f + 1, u, s, hs, t, h => by
    simp only [visF] at h
    split at h
    · injection h with h; rw [← h]; exact hs
    · split at h
      · cases h
      · refine visF_bd f _ _ ?_ t h
        intro k hk
        rcases List.mem_append.1 hk with c | c
        · exact hs k c
        · rw [List.mem_singleton.1 c]; omega
theorem visT_part {l : List Int} {a N : Int} (h0 : 0 ≤ a) (hN : 0 ≤ N) (h1 : a + 3 * N + 2 < l.length) : visT (List.take (3 * N + 3).toNat (List.drop a.toNat l)) 0 N = visT l a N := by
  unfold visT
  rw [vis_part h0 hN h1]
  match hv : vis l a N with
  | none => rfl
  | some t =>
    have hb := visF_bd _ _ _ (fun k hk => by cases hk) t hv
    refine List.map_congr_left fun k hk => ?_
    have := hb k hk
    simp only [List.getD_eq_getElem?_getD, List.getElem?_take, List.getElem?_drop]
    rw [if_pos (by omega)]
    congr 2
    omega
theorem visF_len {l : List Int} {a N : Int} : ∀ (f : Nat) (u : Int) (s t : List Int), visF l a N f u s = some t → t.length ≤ s.length + f
  | 0, _, _, _, h => by cases h
  | f + 1, u, s, t, h => by
    simp only [visF] at h
    split at h
    · injection h with h; rw [← h]; omega
    · split at h
      · cases h
      · have := visF_len f _ _ t h
        rw [List.length_append, List.length_singleton] at this
        omega
theorem visT_len (l : List Int) (a N : Int) : (visT l a N).length ≤ N.toNat + 2 := by
  unfold visT
  match hv : vis l a N with
  | none => simp
  | some t =>
    have := visF_len _ _ _ t hv
    simpa using this
end Go.Proofs.Ytcbgmkngkkajlaa
end

section
namespace Go.Proofs.Ytcbgmkngkkajlaa
open Go Go.Sy Go.RowKit

def trueK (_ : Nat) (args : List SV) (pc : PC) (hp : Heap) : Option (List CLeaf) := match args with
  | [] => some [⟨false, .bool (.lit true), pc, hp⟩]
  | _ => none
theorem true_ok {G : Type} {O : Orac} {I : In G} {f : Nat} (hf : ∀ w, Calls Try.prog f #[] w fun e w' => e = .returned (.bool true) ∧ Below w.heap.size w w') (oo : OOK Try.prog O I) : OOK Try.prog (O.withCall f trueK) I := by
  refine withCall_ok oo ?_
  intro lo args pc hp cs h sz hsz B ν ρ w R hI hpc hw hl
  unfold trueK at h
  split at h
  · cases h
    exact pure_call' (v := .bool (.lit true)) hpc hw hl (List.mem_cons_self ..) (hf w)
  · cases h
end Go.Proofs.Ytcbgmkngkkajlaa
end

section
namespace Go.Proofs.Ytcbgmkngkkajlaa
open Go Go.Sy Go.RowKit

def tSame : Tmpl := ⟨[.sl 0 (.var 0) (.len (.var 0)) (.var 1), .sl 1 (.var 2) (.len (.var 1)) (.var 3)], [(.lt (.var 0) (.lit 0), false), (.lt (.var 2) (.lit 0), false)], [(0, .view .u64 (.var 0) (.var 0)), (1, .view .u64 (.var 2) (.var 1))]⟩
def nSame : Nat := nmAt 4
def eSame (P : Program) : Leaf := capL P noOrac 15 4 tSame.args tSame.pc tSame.hp
def hSame (P : Program) : Leaf := hdFrom 6 (hdI nSame 5 0 (eSame P))
def pSame : PC := (.lt (.var (nSame + 0)) (.lit 0), false) :: (.eq (.len (.var 0)) (.len (.var 1)), true) :: tSame.pc
def gSame (P : Program) : List Tgt := [⟨.exit 0, (hSame P).fr, tSame.hp, [(eqX (.var 0) (.var 1), true)]⟩, ⟨.ret, deadFrom 5 (hSame P).fr, tSame.hp, [(eqX (.var 0) (.var 1), false)]⟩]
def bSame : PC := [(.eq (.len (.var 0)) (.len (.var 1)), false), (.lt (.var 0) (.lit 0), true), (.lt (.var 2) (.lit 0), true), (.lt (.lit 9223372036854775807) (.len (.var 0)), true)]
def sSame (P : Program) : Option (List SumT) := (codeX P noOrac LO7 SZ7 15 6000 0 (loopAt P 15 4) (hSame P).fr pSame tSame.hp).bind (sumsT P nSame LO7 SZ7 (⟨.normal, (hSame P).fr, tSame.hp, pSame⟩ :: gSame P))
def oSame (P : Program) : Orac := noOrac.withLoop 15 4 nSame (eSame P).fr tSame.hp (mkM nSame (gSame P) bSame)
end Go.Proofs.Ytcbgmkngkkajlaa
end

section
namespace Go.Proofs.Ytcbgmkngkkajlaa
open Go Go.Sy Go.RowKit

def sumsSame : List SumT := [
  ⟨.bad, 0, ⟨[], [], [], [], [], [], [], []⟩, [((.lt (.var (nSame + 0)) (.len (.var 1))), false), ((.lt (.var (nSame + 0)) (.len (.var 0))), true), ((.lt (.var (nSame + 0)) (.lit 0)), false), ((.eq (.len (.var 0)) (.len (.var 1))), true), ((.lt (.var 0) (.lit 0)), false), ((.lt (.var 2) (.lit 0)), false)]⟩,
  ⟨.ret, 1, ⟨[], [], [], [], [], [], [], []⟩, [((.eq (.nth (.var 0) (.var (nSame + 0))) (.nth (.var 1) (.var (nSame + 0)))), false), ((.lt (.var (nSame + 0)) (.len (.var 1))), true), ((.lt (.var (nSame + 0)) (.len (.var 0))), true), ((.lt (.var (nSame + 0)) (.lit 0)), false), ((.eq (.len (.var 0)) (.len (.var 1))), true), ((.lt (.var 0) (.lit 0)), false), ((.lt (.var 2) (.lit 0)), false)]⟩,
  ⟨.normal, 0, ⟨[], [(0, (.wrap .i64 (.add (.var (nSame + 0)) (.lit 1))))], [], [], [], [], [], []⟩, [((.eq (.nth (.var 0) (.var (nSame + 0))) (.nth (.var 1) (.var (nSame + 0)))), true), ((.lt (.var (nSame + 0)) (.len (.var 1))), true), ((.lt (.var (nSame + 0)) (.len (.var 0))), true), ((.lt (.var (nSame + 0)) (.lit 0)), false), ((.eq (.len (.var 0)) (.len (.var 1))), true), ((.lt (.var 0) (.lit 0)), false), ((.lt (.var 2) (.lit 0)), false)]⟩,
  ⟨.exit 0, 0, ⟨[], [(0, (.var (nSame + 0)))], [], [], [], [], [], []⟩, [((.lt (.var (nSame + 0)) (.len (.var 0))), false), ((.lt (.var (nSame + 0)) (.lit 0)), false), ((.eq (.len (.var 0)) (.len (.var 1))), true), ((.lt (.var 0) (.lit 0)), false), ((.lt (.var 2) (.lit 0)), false)]⟩]
def startSame : Mt := ⟨[], [(0, (.lit 0))], [], [], [], [], [], []⟩
def ouSame : List CLeaf := [
  ⟨false, (.bool (.lit false)), [((.eq (.len (.var 0)) (.len (.var 1))), false), ((.lt (.var 0) (.lit 0)), false), ((.lt (.var 2) (.lit 0)), false)], [(0, (.view .u64 (.var 0) (.var 0))), (1, (.view .u64 (.var 2) (.var 1)))]⟩,
  ⟨false, (.bool (.lit true)), [((.gb 0 (.app 2 (.app 1 (.var 0) (.var 0) (.lit 0) (.lit 0) (.lit 0) (.lit 0) (.var 0)) (.app 1 (.var 0) (.var 0) (.lit 0) (.lit 0) (.lit 0) (.lit 0) (.var 1)) (.lit 0) (.lit 0) (.lit 0) (.lit 0) .nil) (.lit 0) (.lit 0)), true), ((.eq (.len (.var 0)) (.len (.var 1))), true), ((.lt (.var 0) (.lit 0)), false), ((.lt (.var 2) (.lit 0)), false)], [(0, (.view .u64 (.var 0) (.var 0))), (1, (.view .u64 (.var 2) (.var 1)))]⟩,
  ⟨false, (.bool (.lit false)), [((.gb 0 (.app 2 (.app 1 (.var 0) (.var 0) (.lit 0) (.lit 0) (.lit 0) (.lit 0) (.var 0)) (.app 1 (.var 0) (.var 0) (.lit 0) (.lit 0) (.lit 0) (.lit 0) (.var 1)) (.lit 0) (.lit 0) (.lit 0) (.lit 0) .nil) (.lit 0) (.lit 0)), false), ((.eq (.len (.var 0)) (.len (.var 1))), true), ((.lt (.var 0) (.lit 0)), false), ((.lt (.var 2) (.lit 0)), false)], [(0, (.view .u64 (.var 0) (.var 0))), (1, (.view .u64 (.var 2) (.var 1)))]⟩,
  ⟨true, (.tup []), [((.lt (.lit 9223372036854775807) (.len (.var 0))), true), ((.eq (.len (.var 0)) (.len (.var 1))), true), ((.lt (.var 0) (.lit 0)), false), ((.lt (.var 2) (.lit 0)), false)], []⟩]
theorem bodySame : sSame Try.prog = some sumsSame := by kernel_rfl
theorem stSame : mAll nSame 0 0 Try.prog (eSame Try.prog).fr tSame.hp (hSame Try.prog).fr tSame.hp = some startSame := by kernel_rfl
theorem oneSame : (loopsAt Try.prog 15 4).length = 1 := by kernel_rfl
theorem runSame : runX Try.prog (oSame Try.prog) 15 tSame.args tSame.pc tSame.hp = some ouSame := by kernel_rfl
attribute [local irreducible] nmAt
theorem oSame_ok : OOK Try.prog (oSame Try.prog) inM := by
  have hb : ∀ {ν : Env Gh}, (∀ x ∈ bSame, x.1.den ν ≠ x.2) → (ν.l 0).length = (ν.l 1).length ∧ 0 ≤ ν.i 0 ∧ 0 ≤ ν.i 2 ∧ (ν.l 0).length ≤ 9223372036854775807 := by
    intro ν h
    simp only [bSame, bads_cons, SB.den, Bool.not_true, Bool.not_false, decide_eq_true_eq, decide_eq_false_iff_not, beq_iff_eq] at h
    simp only [SI.den, SL.den] at h
    omega
  have hp : ∀ {ν : Env Gh} {x : Vals Gh}, (∀ x ∈ bSame, x.1.den ν ≠ x.2) → 0 ≤ x.i 0 → pcDen (ν.at nSame x) pSame := by
    intro ν x h h0
    have := hb h
    have rf : RF nSame ν x (ν.at nSame x) := RF.self rfl
    simp only [pSame, tSame, pcDen_cons_iff, pcDen_nil_iff, and_true, SB.den, decide_eq_false_iff_not, beq_iff_eq]
    simp only [SI.den, SL.den, rf.i 0 (by decide), rf.io 0 (by decide), rf.io 2 (by decide), rf.lo 0 (by decide), rf.lo 1 (by decide)]
    omega
  refine loopT_ok pr noOrac_ok (rfl : nSame = nmAt 4) (by decide +kernel) oneSame (ghL []) bodySame stSame
    (fun ν x => 0 ≤ x.i 0 ∧ x.i 0 ≤ (ν.l 0).length ∧ ∀ j : Nat, (j : Int) < x.i 0 → (ν.l 0).getD j 0 = (ν.l 1).getD j 0) (fun ν x => ((ν.l 0).length - x.i 0).toNat) ?_ ?_ noOrac_ok
  · intro ν hI h
    have := hb h
    refine ⟨⟨by simp [startSame, Mt.vals, lkp, SI.den], by simp [startSame, Mt.vals, lkp, SI.den], fun j hj => ?_⟩, hp h (by simp [startSame, Mt.vals, lkp, SI.den]), by constructor <;> simp [startSame]⟩
    simp [startSame, Mt.vals, lkp, SI.den] at hj
    omega
  · intro t ht ν x ν2 hI h hJ _ rf hpc
    have := hb h
    obtain ⟨j1, j2, j3⟩ := hJ
    simp only [sumsSame, List.mem_cons, List.not_mem_nil, or_false] at ht
    rcases ht with rfl | rfl | rfl | rfl
    all_goals
      simp only [pcDen_cons_iff, SB.den, decide_eq_true_eq, decide_eq_false_iff_not, beq_iff_eq, beq_eq_false_iff_ne] at hpc
      simp only [SI.den, SL.den, rf.i 0 (by decide), rf.io 0 (by decide), rf.io 2 (by decide), rf.lo 0 (by decide), rf.lo 1 (by decide)] at hpc
    · show False
      omega
    · refine ⟨fun g hg => ?_, by constructor <;> simp⟩
      cases hg
      refine pcDen_one ?_
      have rf3 : ∀ y, RF nSame ν y (ν.at nSame y) := fun y => RF.self rfl
      rw [eqX_den ((rf3 _).I.trans hI)]
      simp only [SL.den, beq_eq_false_iff_ne, (rf3 _).lo 0 (by decide), (rf3 _).lo 1 (by decide)]
      intro e
      exact hpc.1 (by rw [e])
    · have e : (Mt.vals ⟨[], [(0, (.wrap .i64 (.add (.var (nSame + 0)) (.lit 1))))], [], [], [], [], [], []⟩ (ghL []) ν2).i 0 = x.i 0 + 1 := by
        simp only [Mt.vals, lkp, Nat.beq_refl, if_true, SI.den, rf.i 0 (by decide)]
        rw [wrapS _ (by omega) (by omega)]
      refine ⟨⟨by rw [e]; omega, by rw [e]; omega, fun j hj => ?_⟩, hp h (by rw [e]; omega), by rw [e]; omega, by constructor <;> simp⟩
      rw [e] at hj
      rcases Int.lt_or_le (j : Int) (x.i 0) with hlt | hlt
      · exact j3 j hlt
      · have e2 : (x.i 0).toNat = j := by omega
        have := hpc.1
        rwa [e2] at this
    · refine ⟨fun g hg => ?_, by constructor <;> simp⟩
      cases hg
      refine pcDen_one ?_
      have rf3 : ∀ y, RF nSame ν y (ν.at nSame y) := fun y => RF.self rfl
      rw [eqX_den ((rf3 _).I.trans hI)]
      simp only [SL.den, beq_iff_eq, (rf3 _).lo 0 (by decide), (rf3 _).lo 1 (by decide)]
      exact list_ext (by omega) (fun j hj => j3 j (by omega))
def kSame (P : Program) := sumK P tSame ouSame
theorem same_ok {O : Orac} (oo : OOK Try.prog O inM) : OOK Try.prog (O.withCallF 15 (kSame Try.prog)) inM := withCallF_ok oo (sum_ok pr oSame_ok runSame oo)
end Go.Proofs.Ytcbgmkngkkajlaa
end
