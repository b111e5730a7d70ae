/- Texts of one library, in one file. -/
import Derived.Test.YtlmenjenkpnacaaSyK
set_option linter.unusedVariables false
set_option linter.unusedSimpArgs false

section
namespace Go.Sy
open Go Go.RowKit

/-! ### calls that are known by heart: many templates of one function, looked up by a number in the state -/
section
variable {P : Program} {G : Type} {O : Orac} {I : In G}
/-- The third number behind the first argument (a loom's steps). -/
def keyC (args : List SV) (hp : Heap) : Option Nat := match args with
  | .ptr b _ :: _ => match hget b hp with
    | some (.cells (_ :: _ :: .int _ (.lit (.ofNat n)) :: _) _ _) => some n
    | _ => none
  | _ => none
def memoK (P : Program) (key : List SV → Heap → Option Nat) (ms : List (Nat × Tmpl × List CLeaf)) (lo : Nat) (args : List SV) (pc : PC) (hp : Heap) : Option (List CLeaf) :=
  match key args hp with
  | none => none
  | some n => match lkp n ms with
    | none => none
    | some m => match sumK P m.1 m.2 lo args pc hp with
      | none => none
      | some cs => if cs.any (·.bad) then none else some cs
theorem memo_ok (pr : PR P) {O0 : Orac} (oo : OOK P O0 I) {f : Nat} {key : List SV → Heap → Option Nat} {ms : List (Nat × Tmpl × List CLeaf)}
    (h : ∀ x ∈ ms, runX P O0 f x.2.1.args x.2.1.pc x.2.1.hp = some x.2.2) {O' : Orac} (oo' : OOK P O' I) : OOK P (O'.withCallF f (memoK P key ms)) I := by
  refine withCallF_ok oo' (withCall_ok oo' ?_)
  intro lo args pc hp cs hk
  unfold memoK at hk
  split at hk
  · cases hk
  · split at hk
    · cases hk
    · rename_i n hn m hm
      split at hk
      · cases hk
      rename_i cs' hs
      split at hk
      · cases hk
      cases hk
      have := (sum_ok pr oo (h _ (lkp_mem hm)) oo').call (f := f) (lo := lo) (args := args) (pc := pc) (hp := hp) (cs := cs)
      refine this ?_
      show (if Nat.beq f f = true then some (sumK P m.1 m.2 lo args pc hp) else _) = _
      rw [if_pos (Nat.beq_refl f), hs]
end
end Go.Sy
end

section
namespace Go.Sy
open Go Go.RowKit

def isZ : SI → Bool
  | .lit (.ofNat 0) => true
  | _ => false
/-- the row's list behind the copy -/
def copyN (l nl : SL) (off : SI) : SL := if isZ off && (SI.mkLen nl).beq (SI.mkLen l) then nl else SL.mkApp (SL.mkTake l off) (SL.mkApp nl (SL.mkDrop l (SI.mkAdd off (SI.mkLen nl))))
def copyW (P : Program) (pc : PC) (hp : Heap) (t : Nat) (d : SV) (nl : SL) : Option (List (PC × Option (SV × Heap))) :=
  match P.underlying t with
  | some (.slice e) =>
    match P.underlying e, sizeT P e, d with
    | some (.int k), some 1, .sl b off len _ => match hget b hp with
      | some bk => match asRow P bk with
        | some (j, l, c, ty) =>
          if kBeq j k then
            some ((need pc [SB.mkLe (.lit 0) off, SB.mkLe (.lit 0) len, SB.mkLe (SI.mkAdd off len) (SI.mkLen l), SB.mkLe (SI.mkLen nl) len]).map fun x =>
              (x.1, if x.2 then some (.int .i64 (SI.mkLen nl), hset b (.row j (copyN l nl off) c ty) hp) else none))
          else none
        | none => none
      | none => none
    | _, _, _ => none
  | _ => none
def opCopyW (P : Program) (_ : Nat) (fr : List SV) (pc : PC) (hp : Heap) (o : Oper) : Option (List (PC × ORes)) :=
  match o.op with
  | .call { callee := .builtin .copy, args, argTypes } => match evalOL fr args.toList, argTypes.toList with
    | some [d, x], [t, _] => match P.underlying t with
      | some (.slice e) => match P.underlying e with
        | some (.int k) => match listX P pc hp k x with
          | some [([], some nl)] => (copyW P pc hp t d nl).map outsVH
          | _ => none
        | _ => none
      | _ => none
    | _, _ => none
  | _ => none

section
variable {P : Program} {G : Type} {ν : Env G} {ρ : Nat → Nat} {B : Base} {hp : Heap} {w : World}
theorem copyW_run (h : HW B ν ρ hp w) {t u : Nat} {pc : PC} (hd : pcDen ν pc) {d : SV} {nl : SL} {k : IntKind} {e : Nat} {xv : Value} (hut : P.underlying t = some (.slice e)) (hue : P.underlying e = some (.int k))
    (hx : Reads w xv ((nl.den ν).map (Value.int k))) {l : List (PC × Option (SV × Heap))} (ha : copyW P pc hp t d nl = some l) (ty : TypeId) :
    ∃ r ∈ l, pcDen ν r.1 ∧ ∀ y, r.2 = some y → ∃ w', (Builtin.copy_ #[t, u] ty #[d.den ν ρ, xv]).run P w = .ok (y.1.den ν ρ) w' ∧ HW B ν ρ y.2 w' := by
  unfold copyW at ha
  rw [hut] at ha
  simp only [hue] at ha
  split at ha
  case h_2 => cases ha
  rename_i k' b off len cap hk hsz
  cases hk
  split at ha
  case h_2 => cases ha
  rename_i bk hg
  split at ha
  case h_2 => cases ha
  rename_i j l0 c0 ty0 har
  split at ha
  case isFalse => cases ha
  rename_i hc
  have q1 := kBeq_eq hc
  subst q1
  cases ha
  obtain ⟨x, hxm, h1, h2⟩ := need_den (ν := ν) (cs := [SB.mkLe (.lit 0) off, SB.mkLe (.lit 0) len, SB.mkLe (SI.mkAdd off len) (SI.mkLen l0), SB.mkLe (SI.mkLen nl) len]) hd
  refine ⟨_, List.mem_map.2 ⟨x, hxm, rfl⟩, h1, ?_⟩
  cases hb : x.2 with
  | false => intro y hy; cases hy
  | true =>
    intro y hy
    simp only [if_true] at hy
    cases hy
    have c1 := h2 hb
    simp only [List.mem_cons, List.not_mem_nil, or_false, forall_eq_or_imp, forall_eq, SB.mkLe_den, SI.mkAdd_den, SI.mkLen_den, decide_eq_true_eq] at c1
    simp only [SI.den] at c1
    obtain ⟨c1, c2, c3, c4⟩ := c1
    obtain ⟨rest, hr, hcap, hmax⟩ := asRow_den h (hget_mem hg) har
    have hs : (P.info? e).map (·.size) = some 1 := hsz
    obtain ⟨xa, n, cx, rfl, hxl, hxr⟩ := hx
    have hn : (nl.den ν).length = n := by simpa using hxl
    have e1 : (off.den ν + (nl.den ν).length).toNat = (off.den ν).toNat + n := by omega
    have hnew : (copyN l0 nl off).den ν = (l0.den ν).take (off.den ν).toNat ++ (nl.den ν ++ (l0.den ν).drop ((off.den ν).toNat + n)) := by
      unfold copyN
      split
      · rename_i hz
        simp only [Bool.and_eq_true] at hz
        obtain ⟨hz1, hz2⟩ := hz
        have hz2 : (SI.mkLen nl).den ν = (SI.mkLen l0).den ν := by rw [SI.beq_eq hz2]
        rw [SI.mkLen_den, SI.mkLen_den] at hz2
        unfold isZ at hz1
        split at hz1
        · simp only [SI.den]
          rw [List.drop_of_length_le (by simp; omega)]
          simp
        · cases hz1
      · simp only [SL.mkApp_den, SL.mkTake_den, SL.mkDrop_den, SI.mkAdd_den, SI.mkLen_den, e1]
    generalize copyN l0 nl off = new at hnew
    by_cases h0 : nl.den ν = []
    · have hn0 : n = 0 := by rw [← hn, h0]; rfl
      have hrun := run_copy_none w t u ty e (some ⟨ρ b, (off.den ν).toNat, none⟩) xa (len.den ν).toNat (cap.den ν).toNat n cx hut hs (by rw [hn0]; simp)
      refine ⟨w, ?_, h.turn (asRow_nores har) (hget_mem hg) rfl rfl rfl rfl (fun _ _ => rfl) ?_⟩
      · simp only [SV.den, SI.mkLen_den]
        rw [hrun, hn, hn0]; rfl
      · simp only [BlkDen, hnew, h0, hn0]
        refine ⟨⟨rest, by simpa using hr, by simpa using hcap, hmax⟩, fun _ => trivial⟩
    · rcases hxr with ⟨hnil, _⟩ | ⟨ad, rfl, hcell⟩
      · exact absurd (List.map_eq_nil_iff.1 hnil) h0
      · have hmin : Nat.min n (len.den ν).toNat = n := Nat.min_eq_left (by omega)
        have hrun := run_copy_row P w t u ty e (ρ b) (off.den ν).toNat (len.den ν).toNat (cap.den ν).toNat ad n cx _ ty0 ((nl.den ν).map (Value.int j)) hut hs hr (by rw [hmin]; simpa using hn) hcell
          (by simp only [List.length_map, List.size_toArray, List.length_append]; omega) (fun v hv => by obtain ⟨y, _, rfl⟩ := List.mem_map.1 hv; rfl)
        have hcells : ((l0.den ν).map (Value.int j) ++ rest).take (off.den ν).toNat ++ (nl.den ν).map (Value.int j) ++ ((l0.den ν).map (Value.int j) ++ rest).drop ((off.den ν).toNat + ((nl.den ν).map (Value.int j)).length) = (new.den ν).map (Value.int j) ++ rest := by
          rw [hnew, List.length_map, hn, List.take_append_of_le_length (by rw [List.length_map]; omega), List.drop_append_of_le_length (by rw [List.length_map]; omega)]
          simp
        refine ⟨_, ?_, h.turn (asRow_nores har) (hget_mem hg) (w' := w.setRow (ρ b) ((new.den ν).map (Value.int j) ++ rest).toArray) rfl rfl rfl (by simp) (fun q hq => setRow_other w (ρ b) q _ hq) ?_⟩
        · simp only [SV.den, SI.mkLen_den]
          rw [hrun, ← hcells]
          simp only [List.length_map, goInt]
        · simp only [BlkDen]
          refine ⟨⟨rest, setRow_heap w (ρ b) _ _ ty0 _ hr, ?_, hmax⟩, fun _ => trivial⟩
          rw [hnew]
          simp only [List.length_append, List.length_take, List.length_drop]
          omega

theorem opCopyW_ok {O : Orac} {I : In G} (oo : OOK P O I) : OOK P (O.withOp (opCopyW P)) I := by
  refine withOp_ok oo ?_
  intro nm fr pc hp o outs hk B ν ρ a w hI hf hpc hw
  unfold opCopyW at hk
  split at hk
  case h_2 => cases hk
  rename_i args argTypes hop
  split at hk
  case h_2 => cases hk
  rename_i d x t u hv ht
  split at hk
  case h_2 => cases hk
  rename_i e hu
  split at hk
  case h_2 => cases hk
  rename_i k hue
  split at hk
  case h_2 => cases hk
  rename_i nl hls
  simp only [Option.map_eq_some_iff] at hk
  obtain ⟨l, happ, rfl⟩ := hk
  obtain ⟨r, hr, hd, hrd⟩ := listX_den hw hpc hls
  simp only [List.mem_singleton] at hr
  subst hr
  obtain ⟨q, hq, hqd, hrun⟩ := copyW_run (u := u) hw hpc hu hue (hrd nl rfl) happ o.type
  have hargs := evalL_toArray hf hv
  have ht' : argTypes = #[t, u] := by apply Array.ext'; simpa using ht
  simp only [denL] at hargs
  refine ⟨_, List.mem_map.2 ⟨q, hq, rfl⟩, ν, ρ, Agree.refl _ _ _ _, fun _ => ⟨rfl, rfl⟩, hqd, ?_⟩
  cases hq2 : q.2 with
  | none => trivial
  | some y =>
    obtain ⟨w', h1, h2⟩ := hrun y hq2
    refine ⟨w', ?_, h2⟩
    simp only [execOp, hop, resolve, Sem.run_bind, Sem.run_pure, Result.andThen_ok, invoke, builtin, hargs, ht', h1]
end
end Go.Sy
end

section
namespace Go.Sy
open Go Go.RowKit

def regsD : Code → List (Nat × Array Oper)
  | .region id ops true => [(id, ops)]
  | .seq a b => regsD a ++ regsD b
  | .block _ a => regsD a
  | .loop a => regsD a
  | .cond _ a b => regsD a ++ regsD b
  | _ => []
def chkF (P : Program) (T : List (Nat × Nat)) (f : Nat) : Bool := match P.funcs[f]? with
  | none => true
  | some fn => match fn.body with
    | none => true
    | some c => (regsD c).all fun r => match lkp r.1 T with
      | none => true
      | some n => Region.lexTailB .any r.2 n
def tailOf (tab : List (Nat × List (Nat × Nat))) (f rid : Nat) : Option Nat := match lkp f tab with
  | none => none
  | some T => lkp rid T
def ordOf (tab : List (Nat × List (Nat × OT))) (f rid : Nat) : Option OT := match lkp f tab with
  | none => none
  | some T => lkp rid T
def chkO (P : Program) (T : List (Nat × OT)) (f : Nat) : Bool := match P.funcs[f]? with
  | none => true
  | some fn => match fn.body with
    | none => true
    | some c => (regsD c).all fun r => match lkp r.1 T with
      | none => true
      | some l => ordOK r.2 l
def Orac.withTail (O : Orac) (tab : List (Nat × List (Nat × Nat))) : Orac := { O with tail := tailOf tab }
def Orac.withOrder (O : Orac) (tab : List (Nat × List (Nat × OT))) : Orac := { O with order := ordOf tab }

theorem regsD_part {x c : Code} (h : Part x c) : ∀ r ∈ regsD x, r ∈ regsD c := by
  induction h with
  | refl c => exact fun _ h => h
  | seqL _ ih => exact fun r hr => ih r (by simp only [regsD]; exact List.mem_append_left _ hr)
  | seqR _ ih => exact fun r hr => ih r (by simp only [regsD]; exact List.mem_append_right _ hr)
  | block _ ih => exact fun r hr => ih r (by simpa only [regsD] using hr)
  | loop _ ih => exact fun r hr => ih r (by simpa only [regsD] using hr)
  | condL _ ih => exact fun r hr => ih r (by simp only [regsD]; exact List.mem_append_left _ hr)
  | condR _ ih => exact fun r hr => ih r (by simp only [regsD]; exact List.mem_append_right _ hr)

theorem withTail_ok {P : Program} {G : Type} {O : Orac} {I : In G} (oo : OOK P O I) {tab : List (Nat × List (Nat × Nat))} (h : ∀ x ∈ tab, chkF P x.2 x.1 = true) : OOK P (O.withTail tab) I where
  call := oo.call
  loop := oo.loop
  op := oo.op
  order := oo.order
  tail := by
    intro f rid n ops hp ht
    obtain ⟨fn, body, h1, h2, h3⟩ := hp
    unfold Orac.withTail tailOf at ht
    simp only at ht
    split at ht
    · cases ht
    rename_i T hT
    have hc := h _ (lkp_mem hT)
    unfold chkF at hc
    simp only [h1, h2] at hc
    have := List.all_eq_true.1 hc (rid, ops) (regsD_part h3 _ (by simp [regsD]))
    simp only [ht] at this
    exact this
theorem withOrder_ok {P : Program} {G : Type} {O : Orac} {I : In G} (oo : OOK P O I) {tab : List (Nat × List (Nat × OT))} (h : ∀ x ∈ tab, chkO P x.2 x.1 = true) : OOK P (O.withOrder tab) I where
  call := oo.call
  loop := oo.loop
  op := oo.op
  tail := oo.tail
  order := by
    intro f rid l ops hp ht
    obtain ⟨fn, body, h1, h2, h3⟩ := hp
    unfold Orac.withOrder ordOf at ht
    simp only at ht
    split at ht
    · cases ht
    rename_i T hT
    have hc := h _ (lkp_mem hT)
    unfold chkO at hc
    simp only [h1, h2] at hc
    have := List.all_eq_true.1 hc (rid, ops) (regsD_part h3 _ (by simp [regsD]))
    simp only [ht] at this
    exact this
end Go.Sy
end

section
namespace Go.Sy
open Go Go.RowKit

/-- what is known of s, if it is one of the powers 2 .. 256 -/
def powsB (s : SI) : SB := .or (.eq s (.lit 2)) (.or (.eq s (.lit 4)) (.or (.eq s (.lit 8)) (.or (.eq s (.lit 16)) (.or (.eq s (.lit 32)) (.or (.eq s (.lit 64)) (.or (.eq s (.lit 128)) (.eq s (.lit 256))))))))
def bndsB : SB → PC
  | .or (.eq s (.lit n)) r => if SB.beq (.or (.eq s (.lit n)) r) (powsB s) then [(.lt s (.lit 2), false), (.lt (.lit 256) s, false)] else []
  | _ => []
/-- the ways in which a condition is as it is said -/
def splitB : SB → Bool → List PC
  | .and a b, true => (splitB a true).flatMap fun p => (splitB b true).map fun q => q ++ p
  | .and a b, false => splitB b false ++ (splitB a false).flatMap fun p => (splitB b true).map fun q => p ++ q
  | .not a, v => splitB a (!v)
  | .or a b, true => [(.or a b, true) :: bndsB (.or a b)]
  | c, v => [[(c, v)]]
def splitP : PC → List PC
  | [] => [[]]
  | (c, v) :: r => (splitB c v).flatMap fun p => (splitP r).map fun q => p ++ q
def splitC (c : CLeaf) : List CLeaf := (splitP c.pc).map fun p => { c with pc := p }
def splitL (l : List CLeaf) : List CLeaf := l.flatMap splitC

section
variable {G : Type} {ν : Env G}
theorem bndsB_den {c : SB} (h : c.den ν = true) : pcDen ν (bndsB c) := by
  unfold bndsB
  split
  · rename_i s n r
    split
    · rename_i hb
      have hb := SB.beq_eq hb
      rw [hb] at h
      simp only [powsB, SB.den, Bool.or_eq_true, beq_iff_eq] at h
      simp only [SI.den] at h
      refine pcDen_cons ?_ (pcDen_one ?_)
      · simp only [SB.den]; simp only [SI.den]; exact decide_eq_false (by omega)
      · simp only [SB.den]; simp only [SI.den]; exact decide_eq_false (by omega)
    · exact pcDen_nil _
  · exact pcDen_nil _
theorem splitB_den : ∀ (c : SB) (v : Bool), c.den ν = v → ∃ p ∈ splitB c v, pcDen ν p := by
  intro c
  induction c with
  | and a b iha ihb =>
    intro v h
    simp only [SB.den] at h
    cases v with
    | true =>
      simp only [Bool.and_eq_true] at h
      obtain ⟨p, hp, hpd⟩ := iha true h.1
      obtain ⟨q, hq, hqd⟩ := ihb true h.2
      exact ⟨q ++ p, List.mem_flatMap.2 ⟨p, hp, List.mem_map.2 ⟨q, hq, rfl⟩⟩, pcDen_append hqd hpd⟩
    | false =>
      cases hb : b.den ν with
      | false =>
        obtain ⟨p, hp, hpd⟩ := ihb false hb
        exact ⟨p, List.mem_append_left _ hp, hpd⟩
      | true =>
        rw [hb, Bool.and_true] at h
        obtain ⟨p, hp, hpd⟩ := iha false h
        obtain ⟨q, hq, hqd⟩ := ihb true hb
        exact ⟨p ++ q, List.mem_append_right _ (List.mem_flatMap.2 ⟨p, hp, List.mem_map.2 ⟨q, hq, rfl⟩⟩), pcDen_append hpd hqd⟩
  | not a ih =>
    intro v h
    simp only [SB.den] at h
    obtain ⟨p, hp, hpd⟩ := ih (!v) (by rw [← h]; simp)
    exact ⟨p, by cases v <;> exact hp, hpd⟩
  | or a b _ _ =>
    intro v h
    cases v with
    | true => exact ⟨_, List.mem_singleton.2 rfl, pcDen_cons h (bndsB_den h)⟩
    | false => exact ⟨_, List.mem_singleton.2 rfl, pcDen_one h⟩
  | _ => intro v h; exact ⟨_, List.mem_singleton.2 rfl, pcDen_one h⟩
theorem splitP_den : ∀ (l : PC), pcDen ν l → ∃ p ∈ splitP l, pcDen ν p
  | [], _ => ⟨[], by simp [splitP], pcDen_nil _⟩
  | (c, v) :: r, h => by
    obtain ⟨p, hp, hpd⟩ := splitB_den c v (h c v (List.mem_cons_self ..))
    obtain ⟨q, hq, hqd⟩ := splitP_den r (fun d b hm => h d b (List.mem_cons_of_mem _ hm))
    exact ⟨p ++ q, List.mem_flatMap.2 ⟨p, hp, List.mem_map.2 ⟨q, hq, rfl⟩⟩, pcDen_append hpd hqd⟩
end
/-- Said in pieces. -/
theorem splitL_ok {G : Type} {I : In G} {ou0 ou : List CLeaf} (h : ∀ c ∈ ou0, ∀ ν : Env G, ν.I = I → pcDen ν c.pc → ∃ c' ∈ ou, c'.bad = c.bad ∧ (∀ ρ, c'.v.den ν ρ = c.v.den ν ρ) ∧ c'.hp.Sublist c.hp ∧ pcDen ν c'.pc) :
    ∀ c ∈ ou0, ∀ ν : Env G, ν.I = I → pcDen ν c.pc → ∃ c' ∈ splitL ou, c'.bad = c.bad ∧ (∀ ρ, c'.v.den ν ρ = c.v.den ν ρ) ∧ c'.hp.Sublist c.hp ∧ pcDen ν c'.pc := by
  intro c hc ν hI hp
  obtain ⟨c1, m1, e1, e2, e3, e4⟩ := h c hc ν hI hp
  obtain ⟨p, hp2, hpd⟩ := splitP_den c1.pc e4
  exact ⟨{ c1 with pc := p }, List.mem_flatMap.2 ⟨c1, m1, List.mem_map.2 ⟨p, hp2, rfl⟩⟩, e1, e2, e3, hpd⟩
end Go.Sy
end

section
namespace Go.Sy
open Go Go.RowKit

def boolRow (ty : Nat) (l : SL) : SG := .app 48 (.var 0) (.var 0) (.lit (.ofNat ty)) (.lit 0) (.lit 0) (.lit 0) l
def asB : SBk → Option (Nat × SL)
  | .res (.app f _ _ (.lit (.ofNat ty)) _ _ _ l) => if Nat.beq f 48 then some (ty, l) else none
  | _ => none
def makeB (P : Program) (nm : Nat) (pc : PC) (hp : Heap) (t : Nat) (len cap : SI) : Option (List (PC × Option (SV × Heap))) :=
  match P.underlying t with
  | some (.slice e) => match sizeT P e, zeroT P e, P.info? e with
    | some 1, some (.bool (.lit false)), some inf =>
      if len.beq cap && Nat.ble inf.bytes 1024 && hav nm (nm + 1) hp && len.av nm (nm + 1) then
        some (ways (need pc [SB.mkLe (.lit 0) len, SB.mkLt len (.lit 1073741824)]) (.sl nm (.lit 0) (SI.mkNat len) (SI.mkNat len), hadd nm (.res (boolRow e (.rep len (.lit 0)))) hp))
      else none
    | _, _, _ => none
  | _ => none
def opBool (P : Program) (nm : Nat) (fr : List SV) (pc : PC) (hp : Heap) (o : Oper) : Option (List (PC × ORes)) :=
  match o.op with
  | .makeSlice t l c => match evalO fr l, evalO fr c with
    | some (.int .i64 len), some (.int .i64 cap) => (makeB P nm pc hp t len cap).map outsVH
    | _, _ => none
  | .load t x => match evalO fr x with
    | some (.ptr b off) => match hget b hp with
      | some bk => match asB bk, P.underlying t with
        | some (_, l), some .bool => some (outsV hp (ways (need pc [SB.mkLe (.lit 0) off, SB.mkLt off (SI.mkLen l)]) (.bool (SB.mkLt (.lit 0) (SI.mkNth l off)))))
        | _, _ => none
      | none => none
    | _ => none
  | .store t x y => match evalO fr x, evalO fr y with
    | some (.ptr b off), some (.bool (.lit true)) => match hget b hp with
      | some bk => match asB bk, sizeT P t with
        | some (ty, l), some 1 => some (outsH (ways (need pc [SB.mkLe (.lit 0) off, SB.mkLt off (SI.mkLen l)]) (hset b (.res (boolRow ty (.mkSet l off (.lit 1)))) hp)))
        | _, _ => none
      | none => none
    | _, _ => none
  | _ => none

section
variable {P : Program} {ν : Env Gh} {ρ : Nat → Nat} {B : Base} {hp : Heap} {w : World}
theorem asB_den (hI : ν.I = inM) {bk : SBk} {ty : Nat} {l : SL} (h : asB bk = some (ty, l)) {F : Nat → Prop} {n : Nat} (hb : BlkDen B ν ρ w F n bk) :
    w.heap[ρ n]? = some (.cells ((l.den ν).map bval).toArray ty (0, 0)) ∧ ∀ k, F k ↔ k = ρ n := by
  unfold asB at h
  split at h
  · rename_i f g g' ty' b c d l'
    split at h
    · rename_i hf
      have := Nat.eq_of_beq_eq_true hf
      subst this
      cases h
      simp only [BlkDen, SG.den, SI.den, hI, inM, xga] at hb
      exact hb.1 trivial
    · cases h
  · cases h
theorem boolRow_den (hI : ν.I = inM) {ty : Nat} {l : SL} {F : Nat → Prop} {n : Nat} (h : w.heap[ρ n]? = some (.cells ((l.den ν).map bval).toArray ty (0, 0)) ∧ ∀ k, F k ↔ k = ρ n) : BlkDen B ν ρ w F n (.res (boolRow ty l)) := by
  simp only [BlkDen, boolRow, SG.den, SI.den, hI, inM, xga]
  exact ⟨fun _ => h, fun hc => absurd rfl hc⟩
theorem boolCell (hI : ν.I = inM) (h : HW B ν ρ hp w) {b ty : Nat} {bk : SBk} {l : SL} (hg : hget b hp = some bk) (ha : asB bk = some (ty, l)) : w.heap[ρ b]? = some (.cells ((l.den ν).map bval).toArray ty (0, 0)) := by
  obtain ⟨F, h1, _, _⟩ := h.foot
  exact (asB_den hI ha (h1 b bk (hget_mem hg))).1
/-- One block turned, whose footprint is known. -/
theorem HW.turnF (h : HW B ν ρ hp w) {n : Nat} {b b' : SBk} (hc : ∀ F, BlkDen B ν ρ w F n b → ∀ k, F k ↔ k = ρ n) (hn : (n, b) ∈ hp) {w' : World} (ho : w'.os = w.os) (ht : w'.tape = w.tape) (hu : w'.output = w.output) (hs : w'.heap.size = w.heap.size)
    (hk : ∀ k, k ≠ ρ n → w'.heap[k]? = w.heap[k]?) (hb : BlkDen B ν ρ w' (fun j => j = ρ n) n b') : HW B ν ρ (hset n b' hp) w' := by
  obtain ⟨F, h1, h2, h3⟩ := h.foot
  have hF := hc _ (h1 n b hn)
  refine ⟨ho.trans h.os, ht.trans h.tape, hu.trans h.output, by rw [hs]; exact h.size, fun k hk' => ?_, by rw [hset_fst]; exact h.nd, ?_⟩
  · rw [hk k (fun e => hk' (e ▸ h2 n b _ hn ((hF _).2 rfl)))]; exact h.kept k hk'
  · have key : ∀ m c, (m, c) ∈ hset n b' hp → ∃ d, (m, d) ∈ hp := fun m c hm => by
      rcases mem_hset h.nd hm with ⟨rfl, rfl⟩ | ⟨hne, hm⟩
      · exact ⟨b, hn⟩
      · exact ⟨c, hm⟩
    refine ⟨F, fun m c hm => ?_, fun m c k hm hFk => ?_, fun m c m' c' k hm hm' hk1 hk2 => ?_⟩
    · rcases mem_hset h.nd hm with ⟨rfl, rfl⟩ | ⟨hne, hm⟩
      · have : F m = fun j => j = ρ m := by funext j; exact propext (hF j)
        rw [this]; exact hb
      · exact BlkDen.world (fun k hFk => hk _ (fun e => hne (h3 m c n b k hm hn hFk ((hF k).2 e)))) (h1 m c hm)
    · obtain ⟨d, hd⟩ := key m c hm
      exact h2 m d k hd hFk
    · obtain ⟨d, hd⟩ := key m c hm
      obtain ⟨d', hd'⟩ := key m' c' hm'
      exact h3 m d m' d' k hd hd' hk1 hk2

theorem repB : ∀ m, denL ν ρ (repL m [SV.bool (.lit false)]) = (List.replicate m (0 : Int)).map bval
  | 0 => rfl
  | m + 1 => by simp [repL, denL, SV.den, SB.den, repB m, List.replicate_succ, bval]
theorem makeB_run (hI : ν.I = inM) (h : HW B ν ρ hp w) {nm t : Nat} {pc : PC} (hd : pcDen ν pc) {len cap : SI} {l : List (PC × Option (SV × Heap))} (hl : makeB P nm pc hp t len cap = some l) :
    ∃ r ∈ l, ∃ ν' ρ', Agree nm (nm + 1) ν ν' ρ ρ' ∧ pcDen ν r.1 ∧ ∀ y, r.2 = some y → ∃ w', (Instr.makeSlice t (.int .i64 (len.den ν)) (.int .i64 (cap.den ν))).run P w = .ok (y.1.den ν' ρ') w' ∧ HW B ν' ρ' y.2 w' := by
  unfold makeB at hl
  split at hl
  case h_2 => cases hl
  rename_i e hu
  split at hl
  case h_2 => cases hl
  rename_i inf hn hz hinf
  obtain ⟨i, zv, hi, hzv, hzd⟩ := zeroT_info (ν := ν) (ρ := ρ) hz
  have hii : inf = i := Option.some.inj (hinf.symm.trans hi)
  subst hii
  have hsz : inf.size = 1 := by unfold sizeT at hn; rw [hi] at hn; simpa using hn
  split at hl
  case isFalse => cases hl
  rename_i hc
  simp only [Bool.and_eq_true] at hc
  obtain ⟨⟨⟨q1, q4⟩, q5⟩, q6⟩ := hc
  have q1 := SI.beq_eq q1
  have q4 := Nat.le_of_ble_eq_true q4
  subst q1
  have hag := agree_upd (ν := ν) (ρ := ρ) nm w.heap.size
  have e1 : upd ρ nm w.heap.size nm = w.heap.size := by simp [upd]
  cases hl
  obtain ⟨r, hr, h1, h2⟩ := ways_den (ν := ν) (cs := [SB.mkLe (.lit 0) len, SB.mkLt len (.lit 1073741824)]) (SV.sl nm (.lit 0) (SI.mkNat len) (SI.mkNat len), hadd nm (.res (boolRow e (.rep len (.lit 0)))) hp) hd
  refine ⟨r, hr, ν, upd ρ nm w.heap.size, hag, h1, fun y hy => ?_⟩
  obtain ⟨rfl, hc⟩ := h2 y hy
  have c1 := hc (SB.mkLe (.lit 0) len) (by simp)
  have c2 := hc (SB.mkLt len (.lit 1073741824)) (by simp)
  rw [SB.mkLe_den] at c1
  rw [SB.mkLt_den] at c2
  replace c1 : (0 : Int) ≤ len.den ν := of_decide_eq_true c1
  replace c2 : len.den ν < 1073741824 := of_decide_eq_true c2
  obtain ⟨m, hm⟩ : ∃ m : Nat, len.den ν = (m : Int) := ⟨(len.den ν).toNat, by omega⟩
  have hb : (inf.bytes : Int) * ((m : Nat) : Int) ≤ 281474976710656 := by
    have : inf.bytes * m ≤ 1024 * 1073741824 := Nat.mul_le_mul q4 (by omega)
    have h2 : ((inf.bytes * m : Nat) : Int) ≤ 281474976710656 := by omega
    rwa [Int.natCast_mul] at h2
  have hrun := run_make (P := P) w t e inf zv hu hi hzv .i64 .i64 ((m : Nat) : Int) ((m : Nat) : Int) (by omega) (Int.le_refl _) hb (by omega)
  have hcells : madeCells zv.cells (m * 1) = ((List.replicate m (0 : Int)).map bval).toArray := by
    have := range_rep (ν := ν) (ρ := ρ) (.bool (.lit false)) m 1 rfl (Nat.le_refl _)
    rw [← hzd] at this
    rw [← repB (ν := ν) (ρ := ρ)]
    exact this
  simp only [Int.toNat_natCast, hsz, hcells] at hrun
  refine ⟨w.alloc (.cells ((List.replicate m (0 : Int)).map bval).toArray e), ?_, h.new (n := nm) hag q5 (boolRow_den hI ?_)⟩
  · simp only [SV.den, SI.den, SI.mkNat_den, e1, hm, Int.toNat_natCast]
    exact hrun
  · simp only [SL.den, SI.den, hm, Int.toNat_natCast, e1]
    exact ⟨heap_alloc_new w _, fun _ => trivial⟩

theorem opBool_ok {O : Orac} (oo : OOK P O inM) : OOK P (O.withOp (opBool P)) inM := by
  refine withOp_ok oo ?_
  intro nm fr pc hp o outs hk B ν ρ a w hI hf hpc hw
  unfold opBool at hk
  split at hk
  · rename_i t x y hop
    split at hk
    case h_2 => cases hk
    rename_i len cap hx1 hy1
    simp only [Option.map_eq_some_iff] at hk
    obtain ⟨l', hl, rfl⟩ := hk
    obtain ⟨r, hr, ν', ρ', hag, hd, hrun⟩ := makeB_run hI hw hpc hl
    refine out_VH (by rw [hop]; rfl) hr hag hd (fun y hy => ?_)
    obtain ⟨w', h1, h2⟩ := hrun y hy
    exact ⟨w', by simp only [execOp, hop, hf.eval hx1, hf.eval hy1, SV.den, Sem.run_bind, h1, Result.andThen_ok, Sem.run_pure], h2⟩
  · rename_i t x hop
    split at hk
    case h_2 => cases hk
    rename_i b off hx
    split at hk
    case h_2 => cases hk
    rename_i bk hg
    split at hk
    case h_2 => cases hk
    rename_i ty l ha hu
    cases hk
    obtain ⟨z, hz, hzd, hzc⟩ := ways_den (ν := ν) (cs := [SB.mkLe (.lit 0) off, SB.mkLt off (SI.mkLen l)]) (SV.bool (SB.mkLt (.lit 0) (SI.mkNth l off))) hpc
    refine out_V hw hz hzd fun v hv => ?_
    obtain ⟨rfl, hcs⟩ := hzc v hv
    simp only [List.mem_cons, List.not_mem_nil, or_false, forall_eq_or_imp, forall_eq, SB.mkLe_den, SB.mkLt_den, SI.mkLen_den, decide_eq_true_eq] at hcs
    simp only [SI.den] at hcs
    have hheap := boolCell hI hw hg ha
    have hlt : (off.den ν).toNat < (l.den ν).length := by omega
    have hcell : w.cell? ⟨ρ b, (off.den ν).toNat, none⟩ = some (bval ((l.den ν).getD (off.den ν).toNat 0)) := by
      rw [cell_at hheap, List.getElem?_map, getD_some hlt, Option.map_some]
    have hagg : (isAgg t).run P w = .ok false w := by simp [isAgg, run_underlying hu]
    have hload : (Instr.loadAt t ((SV.ptr b off).den ν ρ)).run P w = .ok (bval ((l.den ν).getD (off.den ν).toNat 0)) w := by
      simp [SV.den, Instr.loadAt, Instr.sureAddr, loadVar, hagg, hcell]
    have e : (SV.bool (SB.mkLt (.lit 0) (SI.mkNth l off))).den ν ρ = bval ((l.den ν).getD (off.den ν).toNat 0) := by
      simp only [SV.den, SB.mkLt_den, SI.mkNth_den, bval]
      simp only [SI.den]
      exact congrArg Value.bool (decide_eq_decide.2 Iff.rfl)
    rw [e]
    simp [execOp, hop, hf.eval hx, hload]
  · rename_i t x y hop
    split at hk
    case h_2 => cases hk
    rename_i b off hx hy
    split at hk
    case h_2 => cases hk
    rename_i bk hg
    split at hk
    case h_2 => cases hk
    rename_i ty l ha hs
    cases hk
    obtain ⟨z, hz, hzd, hzc⟩ := ways_den (ν := ν) (cs := [SB.mkLe (.lit 0) off, SB.mkLt off (SI.mkLen l)]) (hset b (.res (boolRow ty (.mkSet l off (.lit 1)))) hp) hpc
    refine out_H hz hzd fun h' hh => ?_
    obtain ⟨rfl, hcs⟩ := hzc h' hh
    simp only [List.mem_cons, List.not_mem_nil, or_false, forall_eq_or_imp, forall_eq, SB.mkLe_den, SB.mkLt_den, SI.mkLen_den, decide_eq_true_eq] at hcs
    simp only [SI.den] at hcs
    have hr := boolCell hI hw hg ha
    have hlt : (off.den ν).toNat < (l.den ν).length := by omega
    have hst := run_storeCells_at P (ρ b) (off.den ν).toNat ty [Value.bool true] 0 _ w hr (by simp; omega) (fun x hx => by simp at hx; subst hx; rfl)
    have hsp : splice ((l.den ν).map bval) (off.den ν).toNat [Value.bool true] = ((l.den ν).set (off.den ν).toNat 1).map bval := by
      rw [List.map_set]
      have : bval 1 = Value.bool true := rfl
      rw [this]
      unfold splice
      refine List.ext_getElem? fun j => ?_
      rw [List.getElem?_set]
      simp only [List.append_assoc, List.length_map]
      by_cases h1 : j < (off.den ν).toNat
      · rw [List.getElem?_append_left (by simp; omega), List.getElem?_take, if_pos h1, if_neg (by omega)]
      · rw [List.getElem?_append_right (by simp; omega)]
        have hl : (List.take (off.den ν).toNat ((l.den ν).map bval)).length = (off.den ν).toNat := by simp; omega
        rw [hl]
        by_cases h2 : (off.den ν).toNat = j
        · subst h2
          simp [hlt]
        · rw [if_neg h2, List.getElem?_append_right (by simp; omega), List.getElem?_drop]
          congr 1
          simp only [List.length_cons, List.length_nil]
          omega
    refine ⟨w.setRow (ρ b) (splice ((l.den ν).map bval) (off.den ν).toNat [Value.bool true]).toArray, ?_, ?_⟩
    · have hst2 : (Instr.storeAt t ((SV.ptr b off).den ν ρ) (.bool true)).run P w = .ok () (w.setRow (ρ b) (splice ((l.den ν).map bval) (off.den ν).toNat [Value.bool true]).toArray) := by
        simp only [SV.den, Instr.storeAt, Instr.sureAddr, storeVar, Sem.run_bind, Sem.run_pure, Result.andThen_ok, sizeT_run hs, Sem.run_ite, Value.cells, List.size_toArray, List.length_cons, List.length_nil, Nat.zero_add, ne_eq, not_true_eq_false, if_false]
        simp only [Nat.add_zero] at hst
        simpa [splice] using hst
      have hyv := hf.eval hy
      simp only [SV.den, SB.den] at hyv
      simp [execOp, hop, hf.eval hx, hyv, hst2]
    · have hrow := setRow_heap w (ρ b) _ (splice ((l.den ν).map bval) (off.den ν).toNat [Value.bool true]).toArray ty _ hr
      refine hw.turnF (fun F hF => (asB_den hI ha hF).2) (hget_mem hg) rfl rfl rfl (by simp) (fun k hk => setRow_other w (ρ b) k _ hk) (boolRow_den hI ⟨?_, fun _ => Iff.rfl⟩)
      rw [hsp] at hrow ⊢
      rw [SL.mkSet_den]
      simp only [SI.den]
      exact hrow
  · cases hk
end
end Go.Sy
end

section
namespace Go.Sy
open Go Go.RowKit

def upF : Lf → Option SI
  | (n, [(a, .ofNat 1)]) => some (SI.mkAdd a (.lit n))
  | _ => none
def cutI (e : SI) : SI := match upF (lin e 1 (0, [])) with
  | some e' => e'
  | none => e
def cutV : SV → SV
  | .sl b o n c => .sl b o (cutI n) c
  | v => v
/-- the room is as long as the list; so it is for each 'hi' that the list reaches -/
def roomU1 (pc : PC) (c : SI) (L : SI) : Option SV → PC
  | some (.int _ h) => match decB pc (SB.mkLt L h) with
    | some false => [(.lt c h, false), (.lt c L, false)]
    | _ => [(.lt c L, false)]
  | _ => [(.lt c L, false)]
def roomU0 (pc : PC) (c : SI) (L : SI) : Option SV → PC
  | some (.int _ l) => match decB pc (SB.mkLt l L) with
    | some true => [(.lt l c, true)]
    | _ => []
  | _ => []
def roomU (pc : PC) (hp : Heap) (lo hi : Option SV) : SV → PC
  | .sl b _ _ cap => match hget b hp with
    | some (.row _ l c _) => if c.beq cap then roomU1 pc c (lenS pc l) hi ++ roomU0 pc c (lenS pc l) lo else []
    | _ => []
  | _ => []
def opSliceU (P : Program) (_ : Nat) (fr : List SV) (pc : PC) (hp : Heap) (o : Oper) : Option (List (PC × ORes)) :=
  match o.op with
  | .slice t x lo hi none => match evalO fr x, optL fr lo, optL fr hi with
    | some v, some l, some h => match roomU pc hp l h v with
      | [] => none
      | c :: q => (sliceT P (c :: q ++ pc) t v l h).map fun ls => outsV hp (ls.filterMap fun y => (prP (c :: q ++ pc) y.1).map fun p => (p, y.2.map cutV))
    | _, _, _ => none
  | _ => none

section
variable {P : Program} {G : Type} {ν : Env G} {ρ : Nat → Nat} {B : Base} {hp : Heap} {w : World}
theorem cutI_den (e : SI) : (cutI e).den ν = e.den ν := by
  unfold cutI
  split
  · rename_i e' h
    unfold upF at h
    split at h
    · rename_i n a hl
      cases h
      have := lin_den (ν := ν) e 1 (0, [])
      rw [hl] at this
      simp only [lDen, tDen] at this
      rw [SI.mkAdd_den]
      simp only [SI.den]
      have e1 : (Int.ofNat 1 : Int) = 1 := rfl
      rw [e1] at this
      omega
    · cases h
  · rfl
theorem cutV_den (v : SV) : (cutV v).den ν ρ = v.den ν ρ := by
  unfold cutV
  split
  · simp only [SV.den, cutI_den]
  · rfl
theorem roomU_den {pc : PC} (hd : pcDen ν pc) (hw : HW B ν ρ hp w) (lo hi : Option SV) (v : SV) : pcDen ν (roomU pc hp lo hi v) := by
  unfold roomU
  split
  case h_2 => exact pcDen_nil ν
  rename_i b off len cap
  split
  case h_2 => exact pcDen_nil ν
  rename_i k l c ty hg
  split
  case isFalse => exact pcDen_nil ν
  obtain ⟨F, h1, _, _⟩ := hw.foot
  have hb := h1 b _ (hget_mem hg)
  simp only [BlkDen] at hb
  obtain ⟨⟨rest, _, hcap, _⟩, _⟩ := hb
  have one : (SB.lt c (lenS pc l)).den ν = false := by
    simp only [SB.den, lenS_den hd]
    exact decide_eq_false (by omega)
  refine pcDen_append ?_ ?_
  rotate_left
  · unfold roomU0
    split
    · split
      · rename_i hdec
        have := decB_den hd hdec
        rw [SB.mkLt_den, lenS_den hd] at this
        have h2 := of_decide_eq_true this
        refine pcDen_one ?_
        simp only [SB.den]
        exact decide_eq_true (by omega)
      · exact pcDen_nil ν
    · exact pcDen_nil ν
  unfold roomU1
  split
  · rename_i k' h
    split
    · rename_i hdec
      have := decB_den hd hdec
      rw [SB.mkLt_den, lenS_den hd] at this
      have h2 := of_decide_eq_false this
      refine pcDen_cons ?_ (pcDen_one one)
      simp only [SB.den]
      exact decide_eq_false (by omega)
    · exact pcDen_one one
  · exact pcDen_one one
theorem opSliceU_ok {O : Orac} {I : In G} (oo : OOK P O I) : OOK P (O.withOp (opSliceU P)) I := by
  refine withOp_ok oo ?_
  intro nm fr pc hp o outs hk B ν ρ a w hI hf hpc hw
  unfold opSliceU at hk
  split at hk
  case h_2 => cases hk
  rename_i t x lo hi hop
  split at hk
  case h_2 => cases hk
  rename_i v l h hv hl hh
  have hroom := roomU_den hpc hw l h v
  split at hk
  case h_1 => cases hk
  rename_i c q hq
  rw [hq] at hroom
  simp only [Option.map_eq_some_iff] at hk
  obtain ⟨ls, hls, rfl⟩ := hk
  obtain ⟨r, hr, hp', hrun⟩ := sliceT_run (ν := ν) (ρ := ρ) (pcDen_append hroom hpc) hls w
  obtain ⟨p, hpp, hpd⟩ := prP_den (pcDen_append hroom hpc) hp'
  refine out_V hw (List.mem_filterMap.2 ⟨r, hr, by rw [hpp]; rfl⟩) hpd fun u hu => ?_
  simp only [Option.map_eq_some_iff] at hu
  obtain ⟨u', hu', rfl⟩ := hu
  have := hrun u' hu'
  simp only [execOp, hop, hf.eval hv, optL_den hf hl, optL_den hf hh, Option.map_none]
  simp [this, cutV_den]
end
end Go.Sy
end

section
namespace Go.Sy
open Go Go.RowKit

/-- the names of the head of the loop at s, within a loop's round -/
def nm2At (s : Nat) : Nat := 2 ^ 700 + (s * 256 + 255) * (2 ^ 650 / K0)
def LO8 : Nat := 2 ^ 710
def SZ8 : Nat := 2 ^ 650
theorem big700 : (1000 : Nat) ≤ 2 ^ 700 := by decide +kernel
theorem nm2_small {s m : Nat} (h : m < 1000) : out (nm2At s) (nm2At s + 64) m = true := by
  unfold out nm2At
  have h1 := big700
  generalize 2 ^ 700 = A at h1 ⊢
  generalize (s * 256 + 255) * (2 ^ 650 / K0) = x
  rw [Bool.or_eq_true]
  exact .inl (Nat.ble_eq_true_of_le (by omega))
theorem big710 : 2 ^ 700 + 25600255 * (2 ^ 650 / K0) + 64 ≤ 2 ^ 710 := by decide +kernel
theorem nm2_mul (s u : Nat) (hs : s ≤ 100000) : (s * 256 + 255) * u ≤ 25600255 * u := Nat.mul_le_mul_right _ (by omega)
theorem nm2_big {s j : Nat} (hs : Nat.ble s 100000 = true) (h : j < 64) : out LO8 (LO8 + SZ8) (nm2At s + j) = true := by
  have hs := Nat.le_of_ble_eq_true hs
  have h1 := nm2_mul s (2 ^ 650 / K0) hs
  have h2 := big710
  unfold out nm2At LO8
  generalize (s * 256 + 255) * (2 ^ 650 / K0) = x at h1 ⊢
  generalize 25600255 * (2 ^ 650 / K0) = y at h1 h2
  generalize 2 ^ 700 = A at h2 ⊢
  generalize 2 ^ 710 = C at h2 ⊢
  rw [Bool.or_eq_true]
  exact .inl (Nat.ble_eq_true_of_le (by omega))
theorem big8 : (1000 : Nat) ≤ 2 ^ 710 := by decide +kernel
theorem lo8_small {m : Nat} (h : m < 1000) : out LO8 (LO8 + SZ8) m = true := by
  unfold out LO8
  have h1 := big8
  generalize 2 ^ 710 = C at h1 ⊢
  rw [Bool.or_eq_true]
  exact .inl (Nat.ble_eq_true_of_le (by omega))
attribute [irreducible] LO8 SZ8
section
variable {P : Program} {G : Type} {O : Orac} {I : In G}
/-- A loop within a loop: its head is a frame and a heap with names; each round, each end is that with other values. 'J': what holds of the values; 'm': what each round lowers. -/
theorem loopU_ok (pr : PR P) (oo : OOK P O I) {f s n it : Nat} {nm lo sz : Nat} (hsm : ∀ {m : Nat}, m < 1000 → out nm (nm + 64) m = true) (hbg : ∀ {j : Nat}, j < 64 → out lo (lo + sz) (nm + j) = true) (hbs : ∀ {m : Nat}, m < 1000 → out lo (lo + sz) m = true) (h1 : (loopsAt P f s).length = 1) {fr0 frI : List SV} {hp0 hpI : Heap} {pcI bads : PC} {tg : List Tgt} {sums : List SumT} {start : Mt} (d : G)
    (hbody : (codeX P O lo sz f n it (loopAt P f s) frI pcI hpI).bind (sumsT P nm lo sz (⟨.normal, frI, hpI, pcI⟩ :: tg)) = some sums)
    (hst : mAll nm 0 0 P fr0 hp0 frI hpI = some start)
    (J : Env G → Vals G → Prop) (m : Env G → Vals G → Nat)
    (hstart : ∀ ν, ν.I = I → (∀ x ∈ bads, x.1.den ν ≠ x.2) → J ν (start.vals d ν) ∧ pcDen (ν.at nm (start.vals d ν)) pcI ∧ start.Owed ν (ν.at nm (start.vals d ν)))
    (round : ∀ t ∈ sums, ∀ ν x ν2, ν.I = I → (∀ y ∈ bads, y.1.den ν ≠ y.2) → J ν x → pcDen (ν.at nm x) pcI → RF nm ν x ν2 → pcDen ν2 t.pc →
      match t.ex with
      | .normal => J ν (t.mt.vals d ν2) ∧ pcDen (ν.at nm (t.mt.vals d ν2)) pcI ∧ m ν (t.mt.vals d ν2) < m ν x ∧ t.mt.Owed ν2 (ν.at nm (t.mt.vals d ν2))
      | .bad => False
      | _ => (∀ g, tg[t.k]? = some g → pcDen (ν.at nm (t.mt.vals d ν2)) g.pc) ∧ t.mt.Owed ν2 (ν.at nm (t.mt.vals d ν2))) {O' : Orac} (oo' : OOK P O' I) :
    OOK P (O'.withLoop f s nm fr0 hp0 (mkM nm tg bads)) I := by
  refine withLoop_ok oo' h1 ?_
  intro pc sub hsub hpart B ν ρ Q hQ hI hl act w hpc hf hw
  unfold mkM at hl
  cases hp : pav nm (nm + 64) pc with
  | false => rw [hp] at hl; exact (hl ⟨.bad, [], [], []⟩ (by simp) act w ⟨ν, ρ, Agree.refl _ _ _ _, pcDen_nil _, fun h => h.elim⟩).elim
  | true =>
    rw [hp] at hl
    simp only [if_true] at hl
    have hbad : ∀ x ∈ bads, x.1.den ν ≠ x.2 := prune_denG hpc fun x hx he =>
      (hl ⟨.bad, [], x :: pc, []⟩ (List.mem_append_right _ (List.mem_map.2 ⟨x, hx, rfl⟩)) act w ⟨ν, ρ, Agree.refl _ _ _ _, pcDen_one' he hpc, fun h => h.elim⟩).elim
    have hmono : ∀ {ν3 : Env G} {ρ3 : Nat → Nat}, Agree nm (nm + 64) ν ν3 ρ ρ3 → Agree nm (nm + sub) ν ν3 ρ ρ3 := fun h => h.mono (Nat.ble_eq_true_of_le (Nat.le_refl _)) (Nat.ble_eq_true_of_le (by omega))
    cases hb : codeX P O lo sz f n it (loopAt P f s) frI pcI hpI with
    | none => rw [hb] at hbody; cases hbody
    | some lsB =>
      rw [hb] at hbody
      simp only [Option.bind_some] at hbody
      obtain ⟨g1, g2, g3⟩ := hstart ν hI hbad
      -- one way from what is there to the head's form
      have conv : ∀ {lo' sz' : Nat} {x1 : Vals G} {ν1 ν2 : Env G} {ρ1 ρ2 : Nat → Nat} {mt : Mt} {us ts : List SV} {hu ht : Heap}, Agree nm (nm + 64) ν ν1 ρ ρ1 → Agree lo' (lo' + sz') ν1 ν2 ρ1 ρ2 → mAll nm lo' sz' P us hu ts ht = some mt → mt.Owed ν2 (ν.at nm (mt.vals d ν2)) →
          ∃ ρ3, Agree nm (nm + 64) ν (ν.at nm (mt.vals d ν2)) ρ ρ3 ∧ (∀ act, FR ν2 ρ2 us act → FR (ν.at nm (mt.vals d ν2)) ρ3 ts act) ∧ ∀ w, HW B ν2 ρ2 hu w → HW B (ν.at nm (mt.vals d ν2)) ρ3 ht w := by
        intro lo' sz' x1 ν1 ν2 ρ1 ρ2 mt us ts hu ht a1 a2 hm ho
        have hfine := mAll_fine hm
        let ρ3 : Nat → Nat := fun m => match inH nm m, lkp m mt.b with | true, some n => ρ2 n | _, _ => ρ m
        have hr3 : ∀ n, out nm (nm + 64) n = true → ρ3 n = ρ n := fun n hn => by
          show (match inH nm n, lkp n mt.b with | true, some n => ρ2 n | _, _ => ρ n) = ρ n
          rw [inH_out hn]
        have a3 : Agree nm (nm + 64) ν (ν.at nm (mt.vals d ν2)) ρ ρ3 := at_agree hr3
        have hsat : mt.Sat nm ν2 (ν.at nm (mt.vals d ν2)) ρ2 ρ3 := mt_sat hfine (fun j hj => at_i hj) (fun j hj => at_l hj) (fun j hj => at_g hj) ho
        have kr : KeepR nm lo' sz' ρ2 ρ3 := fun n h1 h2 => by rw [hr3 n h1, a2.r n h2, a1.r n h1]
        obtain ⟨k1, k2⟩ := mAll_den (okAll_of a1 a2 a3) kr hm hsat
        exact ⟨ρ3, a3, k1, fun w => k2 B w⟩
      obtain ⟨ρ0, s1, s2, s3⟩ := conv (x1 := start.vals d ν) (Agree.refl _ _ ν ρ) (Agree.refl 0 (0 + 0) ν ρ) hst g3
      refine wp_loop_ghost (fun k act w => ∃ x ρ1, Agree nm (nm + 64) ν (ν.at nm x) ρ ρ1 ∧ J ν x ∧ pcDen (ν.at nm x) pcI ∧ m ν x = k ∧ FR (ν.at nm x) ρ1 frI act ∧ HW B (ν.at nm x) ρ1 hpI w) (m ν (start.vals d ν)) ⟨_, ρ0, s1, g1, g2, rfl, s2 _ hf, s3 _ hw⟩ ?_
      rintro k act w ⟨x, ρ1, k1, k2, k3, k4, k5, k6⟩
      refine x_code pr oo hb hpart B (ν.at nm x) ρ1 (Exit.then _ Q) (k1.I.trans hI) (fun ch a w hq => hQ ch a w hq) ?_ act w ⟨ν.at nm x, ρ1, Agree.refl _ _ _ _, k3, fun _ => ⟨k5, k6⟩⟩
      rintro L hL act' w' ⟨ν2, ρ2, e1, e2, e3⟩
      obtain ⟨t, ht, hsum⟩ := sumsT_mem hbody L hL
      have rf : RF nm ν x ν2 :=
        ⟨e1.I.trans k1.I, fun j hj => (e1.i _ (hbg hj)).trans (at_i hj), fun j hj => (e1.l _ (hbg hj)).trans (at_l hj), fun j hj => (e1.g _ (hbg hj)).trans (at_g hj),
          fun j hj => (e1.i _ (hbs hj)).trans (at_io (hsm hj)), fun j hj => (e1.l _ (hbs hj)).trans (at_lo (hsm hj)), fun j hj => (e1.g _ (hbs hj)).trans (at_go (hsm hj)), fun j hj => (e1.b _ (hbs hj))⟩
      have hr := round t ht ν x ν2 hI hbad k2 k3 rf
      unfold sumT at hsum
      cases hex : L.ex with
      | normal =>
        rw [hex] at hsum e3
        simp only [Option.map_eq_some_iff] at hsum
        obtain ⟨mt, hm, rfl⟩ := hsum
        obtain ⟨q1, q2, q3, q4⟩ := hr e2
        obtain ⟨hf2, hw2⟩ := e3 trivial
        obtain ⟨ρ3, b1, b2, b3⟩ := conv (x1 := x) k1 e1 hm q4
        exact ⟨_, by rw [← k4]; exact q3, _, ρ3, b1, q1, q2, rfl, b2 _ hf2, b3 _ hw2⟩
      | exit i =>
        rw [hex] at hsum e3
        simp only [Option.map_eq_some_iff] at hsum
        obtain ⟨⟨k, mt⟩, hfind, rfl⟩ := hsum
        obtain ⟨-, t', ht', m2, hm⟩ := findT_some hfind
        rw [Nat.sub_zero] at ht'
        have m1 := List.mem_of_getElem? ht'
        rw [hex] at m2
        obtain ⟨q2, q3⟩ := hr e2
        obtain ⟨hf2, hw2⟩ := e3 trivial
        obtain ⟨ρ3, b1, b2, b3⟩ := conv (x1 := x) k1 e1 hm q3
        have := hl ⟨t'.ex, t'.fr, t'.pc ++ pc, t'.hp⟩ (List.mem_append_left _ (List.mem_map.2 ⟨t', List.mem_filter.2 ⟨m1, by rw [m2]; rfl⟩, rfl⟩)) act' w'
          ⟨_, ρ3, hmono b1, pcDen_append (q2 t' ht') (pcDen_agree b1 hp hpc), fun _ => ⟨b2 _ hf2, b3 _ hw2⟩⟩
        simp only [m2] at this
        exact this
      | ret =>
        rw [hex] at hsum e3
        simp only [Option.map_eq_some_iff] at hsum
        obtain ⟨⟨k, mt⟩, hfind, rfl⟩ := hsum
        obtain ⟨-, t', ht', m2, hm⟩ := findT_some hfind
        rw [Nat.sub_zero] at ht'
        have m1 := List.mem_of_getElem? ht'
        rw [hex] at m2
        obtain ⟨q2, q3⟩ := hr e2
        obtain ⟨hf2, hw2⟩ := e3 trivial
        obtain ⟨ρ3, b1, b2, b3⟩ := conv (x1 := x) k1 e1 hm q3
        have := hl ⟨t'.ex, t'.fr, t'.pc ++ pc, t'.hp⟩ (List.mem_append_left _ (List.mem_map.2 ⟨t', List.mem_filter.2 ⟨m1, by rw [m2]; rfl⟩, rfl⟩)) act' w'
          ⟨_, ρ3, hmono b1, pcDen_append (q2 t' ht') (pcDen_agree b1 hp hpc), fun _ => ⟨b2 _ hf2, b3 _ hw2⟩⟩
        simp only [m2] at this
        exact this
      | bad =>
        rw [hex] at hsum
        simp only [Option.some.injEq] at hsum
        subst hsum
        exact (hr e2).elim
end
end Go.Sy
end
