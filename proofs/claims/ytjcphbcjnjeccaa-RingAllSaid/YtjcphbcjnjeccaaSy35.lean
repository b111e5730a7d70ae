import Derived.Test.YtjcphbcjnjeccaaSy34
set_option linter.unusedVariables false
set_option linter.unusedSimpArgs false
namespace Go.Sy
open Go Go.RowKit

/-! ### names replaced by terms -/
structure Sub where
  i : Nat → SI
  l : Nat → SL
  g : Nat → SG
  b : Nat → SB
  r : Nat → Nat
section
variable (p : Nat → Bool)
mutual
/-- All names are such. -/
def SI.okn : SI → Bool
  | .lit _ => true
  | .var i => p i
  | .add a b | .sub a b | .mul a b | .tdiv a b | .tmod a b | .fdiv a b | .bits _ _ a b => a.okn && b.okn
  | .wrap _ a => a.okn
  | .nat a => a.okn
  | .len l => l.okn
  | .nth l i => l.okn && i.okn
  | .gi _ g a b => g.okn && a.okn && b.okn
def SL.okn : SL → Bool
  | .nil => true
  | .cons x l => x.okn && l.okn
  | .var i => p i
  | .app a b => a.okn && b.okn
  | .set l i x => l.okn && i.okn && x.okn
  | .take l n | .drop l n => l.okn && n.okn
  | .rep n x => n.okn && x.okn
  | .gl _ g a b => g.okn && a.okn && b.okn
def SG.okn : SG → Bool
  | .var i => p i
  | .app _ g h a b c d l => g.okn && h.okn && a.okn && b.okn && c.okn && d.okn && l.okn
end
def SB.okn : SB → Bool
  | .lit _ => true
  | .var i => p i
  | .not a => a.okn
  | .and a b | .or a b | .same a b => a.okn && b.okn
  | .eq a b | .lt a b | .le a b => a.okn p && b.okn p
  | .gb _ g a b => g.okn p && a.okn p && b.okn p
mutual
def SV.okn : SV → Bool
  | .int _ e => e.okn p
  | .bool e => e.okn p
  | .ptr b o => p b && o.okn p
  | .nilPtr | .nilFunc | .nilSl => true
  | .dead => true
  | .emp _ => false
  | .fn _ a b => oknL a && oknL b
  | .sl b o l c => p b && o.okn p && l.okn p && c.okn p
  | .opq _ => false
  | .agg l | .tup l => oknL l
  | .gv _ g i => g.okn p && i.okn p
  | .osl b l c => p b && l.okn p && c.okn p
def oknL : List SV → Bool
  | [] => true
  | x :: xs => x.okn && oknL xs
end
def SBk.okn : SBk → Bool
  | .cells cs _ _ => oknL p cs
  | .row _ l c _ => l.okn p && c.okn p
  | .res g => g.okn p
  | _ => false
def pokn : PC → Bool
  | [] => true
  | (c, _) :: r => c.okn p && pokn r
end

section
variable (σ : Sub)
mutual
def SI.sb : SI → SI
  | .lit n => .lit n
  | .var i => σ.i i
  | .add a b => .mkAdd a.sb b.sb
  | .sub a b => .mkSub a.sb b.sb
  | .mul a b => .mkMul a.sb b.sb
  | .tdiv a b => .mkTdiv a.sb b.sb
  | .tmod a b => .mkTmod a.sb b.sb
  | .fdiv a b => .mkFdiv a.sb b.sb
  | .wrap k a => .mkWrap k a.sb
  | .nat a => .mkNat a.sb
  | .bits op k a b => .mkBits op k a.sb b.sb
  | .len l => .mkLen l.sb
  | .nth l i => .mkNth l.sb i.sb
  | .gi f g a b => .gi f g.sb a.sb b.sb
def SL.sb : SL → SL
  | .nil => .nil
  | .cons x l => .cons x.sb l.sb
  | .var i => σ.l i
  | .app a b => .mkApp a.sb b.sb
  | .set l i x => .mkSet l.sb i.sb x.sb
  | .take l n => .mkTake l.sb n.sb
  | .drop l n => .mkDrop l.sb n.sb
  | .rep n x => .rep n.sb x.sb
  | .gl f g a b => .gl f g.sb a.sb b.sb
def SG.sb : SG → SG
  | .var i => σ.g i
  | .app f g h a b c d l => .app f g.sb h.sb a.sb b.sb c.sb d.sb l.sb
end
def SB.sb : SB → SB
  | .lit b => .lit b
  | .var i => σ.b i
  | .not a => .mkNot a.sb
  | .and a b => .mkAnd a.sb b.sb
  | .or a b => .or a.sb b.sb
  | .eq a b => .mkEq (a.sb σ) (b.sb σ)
  | .lt a b => .mkLt (a.sb σ) (b.sb σ)
  | .le a b => .mkLe (a.sb σ) (b.sb σ)
  | .same a b => .mkSame a.sb b.sb
  | .gb f g a b => .gb f (g.sb σ) (a.sb σ) (b.sb σ)
mutual
def SV.sb : SV → SV
  | .int k e => .int k (e.sb σ)
  | .bool e => .bool (e.sb σ)
  | .ptr b o => .ptr (σ.r b) (o.sb σ)
  | .nilPtr => .nilPtr
  | .nilFunc => .nilFunc
  | .nilSl => .nilSl
  | .dead => .dead
  | .emp i => .emp i
  | .fn f a b => .fn f (sbL a) (sbL b)
  | .sl b o l c => .sl (σ.r b) (o.sb σ) (l.sb σ) (c.sb σ)
  | .opq i => .opq i
  | .agg l => .agg (sbL l)
  | .tup l => .tup (sbL l)
  | .gv f g i => .gv f (g.sb σ) (i.sb σ)
  | .osl b l c => .osl (σ.r b) (l.sb σ) (c.sb σ)
def sbL : List SV → List SV
  | [] => []
  | x :: xs => x.sb :: sbL xs
end
def SBk.sb : SBk → SBk
  | .cells cs ty ex => .cells (sbL σ cs) ty ex
  | .row k l c ty => .row k (l.sb σ) (c.sb σ) ty
  | .res g => .res (g.sb σ)
  | b => b
end

/-- A reading of the terms in place of the names. -/
structure SubOK {G : Type} (σ : Sub) (p : Nat → Bool) (ν ν' : Env G) (ρ ρ' : Nat → Nat) : Prop where
  I : ν'.I = ν.I
  i : ∀ n, p n = true → (σ.i n).den ν' = ν.i n
  l : ∀ n, p n = true → (σ.l n).den ν' = ν.l n
  g : ∀ n, p n = true → (σ.g n).den ν' = ν.g n
  b : ∀ n, p n = true → (σ.b n).den ν' = ν.b n
  r : ∀ n, p n = true → ρ' (σ.r n) = ρ n

section
variable {G : Type} {σ : Sub} {p : Nat → Bool} {ν ν' : Env G} {ρ ρ' : Nat → Nat} (h : SubOK σ p ν ν' ρ ρ')
include h
mutual
theorem SI.sb_den : ∀ (e : SI), e.okn p = true → (e.sb σ).den ν' = e.den ν
  | .lit _, _ => rfl
  | .var n, hp => h.i n hp
  | .add a b, hp => by simp only [SI.okn, Bool.and_eq_true] at hp; simp only [SI.sb, SI.mkAdd_den, SI.den, SI.sb_den a hp.1, SI.sb_den b hp.2]
  | .sub a b, hp => by simp only [SI.okn, Bool.and_eq_true] at hp; simp only [SI.sb, SI.mkSub_den, SI.den, SI.sb_den a hp.1, SI.sb_den b hp.2]
  | .mul a b, hp => by simp only [SI.okn, Bool.and_eq_true] at hp; simp only [SI.sb, SI.mkMul_den, SI.den, SI.sb_den a hp.1, SI.sb_den b hp.2]
  | .tdiv a b, hp => by simp only [SI.okn, Bool.and_eq_true] at hp; simp only [SI.sb, SI.mkTdiv_den, SI.den, SI.sb_den a hp.1, SI.sb_den b hp.2]
  | .tmod a b, hp => by simp only [SI.okn, Bool.and_eq_true] at hp; simp only [SI.sb, SI.mkTmod_den, SI.den, SI.sb_den a hp.1, SI.sb_den b hp.2]
  | .fdiv a b, hp => by simp only [SI.okn, Bool.and_eq_true] at hp; simp only [SI.sb, SI.mkFdiv_den, SI.den, SI.sb_den a hp.1, SI.sb_den b hp.2]
  | .bits _ _ a b, hp => by simp only [SI.okn, Bool.and_eq_true] at hp; simp only [SI.sb, SI.mkBits_den, SI.den, SI.sb_den a hp.1, SI.sb_den b hp.2]
  | .wrap _ a, hp => by simp only [SI.okn] at hp; simp only [SI.sb, SI.mkWrap_den, SI.den, SI.sb_den a hp]
  | .nat a, hp => by simp only [SI.okn] at hp; simp only [SI.sb, SI.mkNat_den, SI.den, SI.sb_den a hp]
  | .len l, hp => by simp only [SI.okn] at hp; simp only [SI.sb, SI.mkLen_den, SI.den, SL.sb_den l hp]
  | .nth l i, hp => by simp only [SI.okn, Bool.and_eq_true] at hp; simp only [SI.sb, SI.mkNth_den, SI.den, SL.sb_den l hp.1, SI.sb_den i hp.2]
  | .gi f g a b, hp => by simp only [SI.okn, Bool.and_eq_true] at hp; simp only [SI.sb, SI.den, h.I, SG.sb_den g hp.1.1, SI.sb_den a hp.1.2, SI.sb_den b hp.2]
theorem SL.sb_den : ∀ (e : SL), e.okn p = true → (e.sb σ).den ν' = e.den ν
  | .nil, _ => rfl
  | .cons x l, hp => by simp only [SL.okn, Bool.and_eq_true] at hp; simp only [SL.sb, SL.den, SI.sb_den x hp.1, SL.sb_den l hp.2]
  | .var n, hp => h.l n hp
  | .app a b, hp => by simp only [SL.okn, Bool.and_eq_true] at hp; simp only [SL.sb, SL.mkApp_den, SL.den, SL.sb_den a hp.1, SL.sb_den b hp.2]
  | .set l i x, hp => by simp only [SL.okn, Bool.and_eq_true] at hp; simp only [SL.sb, SL.mkSet_den, SL.den, SL.sb_den l hp.1.1, SI.sb_den i hp.1.2, SI.sb_den x hp.2]
  | .take l n, hp => by simp only [SL.okn, Bool.and_eq_true] at hp; simp only [SL.sb, SL.mkTake_den, SL.den, SL.sb_den l hp.1, SI.sb_den n hp.2]
  | .drop l n, hp => by simp only [SL.okn, Bool.and_eq_true] at hp; simp only [SL.sb, SL.mkDrop_den, SL.den, SL.sb_den l hp.1, SI.sb_den n hp.2]
  | .rep n x, hp => by simp only [SL.okn, Bool.and_eq_true] at hp; simp only [SL.sb, SL.den, SI.sb_den n hp.1, SI.sb_den x hp.2]
  | .gl f g a b, hp => by simp only [SL.okn, Bool.and_eq_true] at hp; simp only [SL.sb, SL.den, h.I, SG.sb_den g hp.1.1, SI.sb_den a hp.1.2, SI.sb_den b hp.2]
theorem SG.sb_den : ∀ (e : SG), e.okn p = true → (e.sb σ).den ν' = e.den ν
  | .var n, hp => h.g n hp
  | .app f g k a b c d l, hp => by
    simp only [SG.okn, Bool.and_eq_true] at hp
    simp only [SG.sb, SG.den, h.I, SG.sb_den g hp.1.1.1.1.1.1, SG.sb_den k hp.1.1.1.1.1.2, SI.sb_den a hp.1.1.1.1.2, SI.sb_den b hp.1.1.1.2, SI.sb_den c hp.1.1.2, SI.sb_den d hp.1.2, SL.sb_den l hp.2]
end
theorem SB.sb_den : ∀ (e : SB), e.okn p = true → (e.sb σ).den ν' = e.den ν
  | .lit _, _ => rfl
  | .var n, hp => h.b n hp
  | .not a, hp => by simp only [SB.okn] at hp; simp only [SB.sb, SB.mkNot_den, SB.den, SB.sb_den a hp]
  | .and a b, hp => by simp only [SB.okn, Bool.and_eq_true] at hp; simp only [SB.sb, SB.mkAnd_den, SB.den, SB.sb_den a hp.1, SB.sb_den b hp.2]
  | .or a b, hp => by simp only [SB.okn, Bool.and_eq_true] at hp; simp only [SB.sb, SB.den, SB.sb_den a hp.1, SB.sb_den b hp.2]
  | .eq a b, hp => by simp only [SB.okn, Bool.and_eq_true] at hp; simp only [SB.sb, SB.mkEq_den, SB.den, SI.sb_den h a hp.1, SI.sb_den h b hp.2]
  | .lt a b, hp => by simp only [SB.okn, Bool.and_eq_true] at hp; simp only [SB.sb, SB.mkLt_den, SB.den, SI.sb_den h a hp.1, SI.sb_den h b hp.2]
  | .le a b, hp => by simp only [SB.okn, Bool.and_eq_true] at hp; simp only [SB.sb, SB.mkLe_den, SB.den, SI.sb_den h a hp.1, SI.sb_den h b hp.2]
  | .same a b, hp => by simp only [SB.okn, Bool.and_eq_true] at hp; simp only [SB.sb, SB.mkSame_den, SB.den, SB.sb_den a hp.1, SB.sb_den b hp.2]
  | .gb f g a b, hp => by simp only [SB.okn, Bool.and_eq_true] at hp; simp only [SB.sb, SB.den, h.I, SG.sb_den h g hp.1.1, SI.sb_den h a hp.1.2, SI.sb_den h b hp.2]
end
section
variable {G : Type} {σ : Sub} {p : Nat → Bool} {ν ν' : Env G} {ρ ρ' : Nat → Nat}
mutual
theorem SV.sb_den (h : SubOK σ p ν ν' ρ ρ') : ∀ (e : SV), e.okn p = true → (e.sb σ).den ν' ρ' = e.den ν ρ
  | .int k e, hp => by simp only [SV.okn] at hp; simp only [SV.sb, SV.den, SI.sb_den h e hp]
  | .bool e, hp => by simp only [SV.okn] at hp; simp only [SV.sb, SV.den, SB.sb_den h e hp]
  | .ptr b o, hp => by simp only [SV.okn, Bool.and_eq_true] at hp; simp only [SV.sb, SV.den, h.r b hp.1, SI.sb_den h o hp.2]
  | .nilPtr, _ => rfl
  | .nilFunc, _ => rfl
  | .nilSl, _ => rfl
  | .dead, _ => rfl
  | .emp i, hp => by simp [SV.okn] at hp
  | .opq i, hp => by simp [SV.okn] at hp
  | .fn f a b, hp => by simp only [SV.okn, Bool.and_eq_true] at hp; simp only [SV.sb, SV.den, sbL_den h a hp.1, sbL_den h b hp.2]
  | .sl b o l c, hp => by simp only [SV.okn, Bool.and_eq_true] at hp; simp only [SV.sb, SV.den, h.r b hp.1.1.1, SI.sb_den h o hp.1.1.2, SI.sb_den h l hp.1.2, SI.sb_den h c hp.2]
  | .agg l, hp => by simp only [SV.okn] at hp; simp only [SV.sb, SV.den, sbL_den h l hp]
  | .tup l, hp => by simp only [SV.okn] at hp; simp only [SV.sb, SV.den, sbL_den h l hp]
  | .gv f g i, hp => by simp only [SV.okn, Bool.and_eq_true] at hp; simp only [SV.sb, SV.den, h.I, SG.sb_den h g hp.1, SI.sb_den h i hp.2]
  | .osl b l c, hp => by simp only [SV.okn, Bool.and_eq_true] at hp; simp only [SV.sb, SV.den, h.r b hp.1.1, SI.sb_den h l hp.1.2, SI.sb_den h c hp.2]
theorem sbL_den (h : SubOK σ p ν ν' ρ ρ') : ∀ (e : List SV), oknL p e = true → denL ν' ρ' (sbL σ e) = denL ν ρ e
  | [], _ => rfl
  | x :: xs, hp => by simp only [oknL, Bool.and_eq_true] at hp; simp only [sbL, denL, SV.sb_den h x hp.1, sbL_den h xs hp.2]
end
end
section
variable {G : Type} {σ : Sub} {p : Nat → Bool} {ν ν' : Env G} {ρ ρ' : Nat → Nat} (h : SubOK σ p ν ν' ρ ρ')
include h
theorem SBk.sb_den {B B' : Base} {w : World} {F : Nat → Prop} {n : Nat} (hn : p n = true) : ∀ {b : SBk}, b.okn p = true → BlkDen B ν ρ w F n b → BlkDen B' ν' ρ' w F (σ.r n) (b.sb σ)
  | .cells cs ty true, hp, hd => by simp only [SBk.okn] at hp; simp only [SBk.sb, BlkDen] at hd ⊢; rw [sbL_den h cs hp, h.r n hn]; exact hd
  | .cells cs ty false, hp, hd => by simp only [SBk.okn] at hp; simp only [SBk.sb, BlkDen] at hd ⊢; rw [sbL_den h cs hp, h.r n hn]; exact hd
  | .row k l c ty, hp, hd => by simp only [SBk.okn, Bool.and_eq_true] at hp; simp only [SBk.sb, BlkDen] at hd ⊢; rw [SL.sb_den h l hp.1, SI.sb_den h c hp.2, h.r n hn]; exact hd
  | .res g, hp, hd => by simp only [SBk.okn] at hp; simp only [SBk.sb, BlkDen] at hd ⊢; rw [SG.sb_den h g hp, h.r n hn, h.I]; exact hd
  | .view _ _ _, hp, _ => by simp [SBk.okn] at hp
  | .tab _ _ _ _ _, hp, _ => by simp [SBk.okn] at hp
theorem pc_sb {pc : PC} : pokn p pc = true → pcDen ν pc → ∀ c b, (c, b) ∈ pc → (c.sb σ).den ν' = b := by
  intro hp hd c b hm
  have : c.okn p = true := by
    induction pc with
    | nil => cases hm
    | cons x r ih =>
      obtain ⟨c', b'⟩ := x
      simp only [pokn, Bool.and_eq_true] at hp
      rcases List.mem_cons.1 hm with hm | hm
      · cases hm; exact hp.1
      · exact ih hp.2 (fun d y hy => hd d y (List.mem_cons_of_mem _ hy)) hm
  rw [SB.sb_den h c this]
  exact hd c b hm
end
end Go.Sy
