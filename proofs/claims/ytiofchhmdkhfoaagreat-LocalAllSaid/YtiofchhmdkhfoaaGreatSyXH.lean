/- copy into a part of a row of its own, where all of it has room. -/
import Derived.Test.YtiofchhmdkhfoaaGreatSyXG
set_option linter.unusedVariables false
set_option linter.unusedSimpArgs false

section
namespace Go.Sy
open Go Go.RowKit

def isZ : SI → Bool
  | .lit (.ofNat 0) => true
  | _ => false
/-- the row's list behind the copy -/
def copyN (l nl : SL) (off : SI) : SL := if isZ off && (SI.mkLen nl).beq (SI.mkLen l) then nl else SL.mkApp (SL.mkTake l off) (SL.mkApp nl (SL.mkDrop l (SI.mkAdd off (SI.mkLen nl))))
def copyW (P : Program) (pc : PC) (hp : Heap) (t : Nat) (d : SV) (nl : SL) : Option (List (PC × Option (SV × Heap))) :=
  match P.underlying t with
  | some (.slice e) =>
    match P.underlying e, sizeT P e, d with
    | some (.int k), some 1, .sl b off len _ => match hget b hp with
      | some bk => match asRow P bk with
        | some (j, l, c, ty) =>
          if kBeq j k then
            some ((need pc [SB.mkLe (.lit 0) off, SB.mkLe (.lit 0) len, SB.mkLe (SI.mkAdd off len) (SI.mkLen l), SB.mkLe (SI.mkLen nl) len]).map fun x =>
              (x.1, if x.2 then some (.int .i64 (SI.mkLen nl), hset b (.row j (copyN l nl off) c ty) hp) else none))
          else none
        | none => none
      | none => none
    | _, _, _ => none
  | _ => none
def opCopyW (P : Program) (_ : Nat) (fr : List SV) (pc : PC) (hp : Heap) (o : Oper) : Option (List (PC × ORes)) :=
  match o.op with
  | .call { callee := .builtin .copy, args, argTypes } => match evalOL fr args.toList, argTypes.toList with
    | some [d, x], [t, _] => match P.underlying t with
      | some (.slice e) => match P.underlying e with
        | some (.int k) => match listX P pc hp k x with
          | some [([], some nl)] => (copyW P pc hp t d nl).map outsVH
          | _ => none
        | _ => none
      | _ => none
    | _, _ => none
  | _ => none

section
variable {P : Program} {G : Type} {ν : Env G} {ρ : Nat → Nat} {B : Base} {hp : Heap} {w : World}
theorem copyW_run (h : HW B ν ρ hp w) {t u : Nat} {pc : PC} (hd : pcDen ν pc) {d : SV} {nl : SL} {k : IntKind} {e : Nat} {xv : Value} (hut : P.underlying t = some (.slice e)) (hue : P.underlying e = some (.int k))
    (hx : Reads w xv ((nl.den ν).map (Value.int k))) {l : List (PC × Option (SV × Heap))} (ha : copyW P pc hp t d nl = some l) (ty : TypeId) :
    ∃ r ∈ l, pcDen ν r.1 ∧ ∀ y, r.2 = some y → ∃ w', (Builtin.copy_ #[t, u] ty #[d.den ν ρ, xv]).run P w = .ok (y.1.den ν ρ) w' ∧ HW B ν ρ y.2 w' := by
  unfold copyW at ha
  rw [hut] at ha
  simp only [hue] at ha
  split at ha
  case h_2 => cases ha
  rename_i k' b off len cap hk hsz
  cases hk
  split at ha
  case h_2 => cases ha
  rename_i bk hg
  split at ha
  case h_2 => cases ha
  rename_i j l0 c0 ty0 har
  split at ha
  case isFalse => cases ha
  rename_i hc
  have q1 := kBeq_eq hc
  subst q1
  cases ha
  obtain ⟨x, hxm, h1, h2⟩ := need_den (ν := ν) (cs := [SB.mkLe (.lit 0) off, SB.mkLe (.lit 0) len, SB.mkLe (SI.mkAdd off len) (SI.mkLen l0), SB.mkLe (SI.mkLen nl) len]) hd
  refine ⟨_, List.mem_map.2 ⟨x, hxm, rfl⟩, h1, ?_⟩
  cases hb : x.2 with
  | false => intro y hy; cases hy
  | true =>
    intro y hy
    simp only [if_true] at hy
    cases hy
    have c1 := h2 hb
    simp only [List.mem_cons, List.not_mem_nil, or_false, forall_eq_or_imp, forall_eq, SB.mkLe_den, SI.mkAdd_den, SI.mkLen_den, decide_eq_true_eq] at c1
    simp only [SI.den] at c1
    obtain ⟨c1, c2, c3, c4⟩ := c1
    obtain ⟨rest, hr, hcap, hmax⟩ := asRow_den h (hget_mem hg) har
    have hs : (P.info? e).map (·.size) = some 1 := hsz
    obtain ⟨xa, n, cx, rfl, hxl, hxr⟩ := hx
    have hn : (nl.den ν).length = n := by simpa using hxl
    have e1 : (off.den ν + (nl.den ν).length).toNat = (off.den ν).toNat + n := by omega
    have hnew : (copyN l0 nl off).den ν = (l0.den ν).take (off.den ν).toNat ++ (nl.den ν ++ (l0.den ν).drop ((off.den ν).toNat + n)) := by
      unfold copyN
      split
      · rename_i hz
        simp only [Bool.and_eq_true] at hz
        obtain ⟨hz1, hz2⟩ := hz
        have hz2 : (SI.mkLen nl).den ν = (SI.mkLen l0).den ν := by rw [SI.beq_eq hz2]
        rw [SI.mkLen_den, SI.mkLen_den] at hz2
        unfold isZ at hz1
        split at hz1
        · simp only [SI.den]
          rw [List.drop_of_length_le (by simp; omega)]
          simp
        · cases hz1
      · simp only [SL.mkApp_den, SL.mkTake_den, SL.mkDrop_den, SI.mkAdd_den, SI.mkLen_den, e1]
    generalize copyN l0 nl off = new at hnew
    by_cases h0 : nl.den ν = []
    · have hn0 : n = 0 := by rw [← hn, h0]; rfl
      have hrun := run_copy_none w t u ty e (some ⟨ρ b, (off.den ν).toNat, none⟩) xa (len.den ν).toNat (cap.den ν).toNat n cx hut hs (by rw [hn0]; simp)
      refine ⟨w, ?_, h.turn (asRow_nores har) (hget_mem hg) rfl rfl rfl rfl (fun _ _ => rfl) ?_⟩
      · simp only [SV.den, SI.mkLen_den]
        rw [hrun, hn, hn0]; rfl
      · simp only [BlkDen, hnew, h0, hn0]
        refine ⟨⟨rest, by simpa using hr, by simpa using hcap, hmax⟩, fun _ => trivial⟩
    · rcases hxr with ⟨hnil, _⟩ | ⟨ad, rfl, hcell⟩
      · exact absurd (List.map_eq_nil_iff.1 hnil) h0
      · have hmin : Nat.min n (len.den ν).toNat = n := Nat.min_eq_left (by omega)
        have hrun := run_copy_row P w t u ty e (ρ b) (off.den ν).toNat (len.den ν).toNat (cap.den ν).toNat ad n cx _ ty0 ((nl.den ν).map (Value.int j)) hut hs hr (by rw [hmin]; simpa using hn) hcell
          (by simp only [List.length_map, List.size_toArray, List.length_append]; omega) (fun v hv => by obtain ⟨y, _, rfl⟩ := List.mem_map.1 hv; rfl)
        have hcells : ((l0.den ν).map (Value.int j) ++ rest).take (off.den ν).toNat ++ (nl.den ν).map (Value.int j) ++ ((l0.den ν).map (Value.int j) ++ rest).drop ((off.den ν).toNat + ((nl.den ν).map (Value.int j)).length) = (new.den ν).map (Value.int j) ++ rest := by
          rw [hnew, List.length_map, hn, List.take_append_of_le_length (by rw [List.length_map]; omega), List.drop_append_of_le_length (by rw [List.length_map]; omega)]
          simp
        refine ⟨_, ?_, h.turn (asRow_nores har) (hget_mem hg) (w' := w.setRow (ρ b) ((new.den ν).map (Value.int j) ++ rest).toArray) rfl rfl rfl (by simp) (fun q hq => setRow_other w (ρ b) q _ hq) ?_⟩
        · simp only [SV.den, SI.mkLen_den]
          rw [hrun, ← hcells]
          simp only [List.length_map, goInt]
        · simp only [BlkDen]
          refine ⟨⟨rest, setRow_heap w (ρ b) _ _ ty0 _ hr, ?_, hmax⟩, fun _ => trivial⟩
          rw [hnew]
          simp only [List.length_append, List.length_take, List.length_drop]
          omega

theorem opCopyW_ok {O : Orac} {I : In G} (oo : OOK P O I) : OOK P (O.withOp (opCopyW P)) I := by
  refine withOp_ok oo ?_
  intro nm fr pc hp o outs hk B ν ρ a w hI hf hpc hw
  unfold opCopyW at hk
  split at hk
  case h_2 => cases hk
  rename_i args argTypes hop
  split at hk
  case h_2 => cases hk
  rename_i d x t u hv ht
  split at hk
  case h_2 => cases hk
  rename_i e hu
  split at hk
  case h_2 => cases hk
  rename_i k hue
  split at hk
  case h_2 => cases hk
  rename_i nl hls
  simp only [Option.map_eq_some_iff] at hk
  obtain ⟨l, happ, rfl⟩ := hk
  obtain ⟨r, hr, hd, hrd⟩ := listX_den hw hpc hls
  simp only [List.mem_singleton] at hr
  subst hr
  obtain ⟨q, hq, hqd, hrun⟩ := copyW_run (u := u) hw hpc hu hue (hrd nl rfl) happ o.type
  have hargs := evalL_toArray hf hv
  have ht' : argTypes = #[t, u] := by apply Array.ext'; simpa using ht
  simp only [denL] at hargs
  refine ⟨_, List.mem_map.2 ⟨q, hq, rfl⟩, ν, ρ, Agree.refl _ _ _ _, fun _ => ⟨rfl, rfl⟩, hqd, ?_⟩
  cases hq2 : q.2 with
  | none => trivial
  | some y =>
    obtain ⟨w', h1, h2⟩ := hrun y hq2
    refine ⟨w', ?_, h2⟩
    simp only [execOp, hop, resolve, Sem.run_bind, Sem.run_pure, Result.andThen_ok, invoke, builtin, hargs, ht', h1]
end
end Go.Sy
end

section
namespace Go.Sy
open Go Go.RowKit

def regsD : Code → List (Nat × Array Oper)
  | .region id ops true => [(id, ops)]
  | .seq a b => regsD a ++ regsD b
  | .block _ a => regsD a
  | .loop a => regsD a
  | .cond _ a b => regsD a ++ regsD b
  | _ => []
def chkF (P : Program) (T : List (Nat × Nat)) (f : Nat) : Bool := match P.funcs[f]? with
  | none => true
  | some fn => match fn.body with
    | none => true
    | some c => (regsD c).all fun r => match lkp r.1 T with
      | none => true
      | some n => Region.lexTailB .any r.2 n
def tailOf (tab : List (Nat × List (Nat × Nat))) (f rid : Nat) : Option Nat := match lkp f tab with
  | none => none
  | some T => lkp rid T
def ordOf (tab : List (Nat × List (Nat × OT))) (f rid : Nat) : Option OT := match lkp f tab with
  | none => none
  | some T => lkp rid T
def chkO (P : Program) (T : List (Nat × OT)) (f : Nat) : Bool := match P.funcs[f]? with
  | none => true
  | some fn => match fn.body with
    | none => true
    | some c => (regsD c).all fun r => match lkp r.1 T with
      | none => true
      | some l => ordOK r.2 l
def Orac.withTail (O : Orac) (tab : List (Nat × List (Nat × Nat))) : Orac := { O with tail := tailOf tab }
def Orac.withOrder (O : Orac) (tab : List (Nat × List (Nat × OT))) : Orac := { O with order := ordOf tab }

theorem regsD_part {x c : Code} (h : Part x c) : ∀ r ∈ regsD x, r ∈ regsD c := by
  induction h with
  | refl c => exact fun _ h => h
  | seqL _ ih => exact fun r hr => ih r (by simp only [regsD]; exact List.mem_append_left _ hr)
  | seqR _ ih => exact fun r hr => ih r (by simp only [regsD]; exact List.mem_append_right _ hr)
  | block _ ih => exact fun r hr => ih r (by simpa only [regsD] using hr)
  | loop _ ih => exact fun r hr => ih r (by simpa only [regsD] using hr)
  | condL _ ih => exact fun r hr => ih r (by simp only [regsD]; exact List.mem_append_left _ hr)
  | condR _ ih => exact fun r hr => ih r (by simp only [regsD]; exact List.mem_append_right _ hr)

theorem withTail_ok {P : Program} {G : Type} {O : Orac} {I : In G} (oo : OOK P O I) {tab : List (Nat × List (Nat × Nat))} (h : ∀ x ∈ tab, chkF P x.2 x.1 = true) : OOK P (O.withTail tab) I where
  call := oo.call
  loop := oo.loop
  op := oo.op
  order := oo.order
  tail := by
    intro f rid n ops hp ht
    obtain ⟨fn, body, h1, h2, h3⟩ := hp
    unfold Orac.withTail tailOf at ht
    simp only at ht
    split at ht
    · cases ht
    rename_i T hT
    have hc := h _ (lkp_mem hT)
    unfold chkF at hc
    simp only [h1, h2] at hc
    have := List.all_eq_true.1 hc (rid, ops) (regsD_part h3 _ (by simp [regsD]))
    simp only [ht] at this
    exact this
theorem withOrder_ok {P : Program} {G : Type} {O : Orac} {I : In G} (oo : OOK P O I) {tab : List (Nat × List (Nat × OT))} (h : ∀ x ∈ tab, chkO P x.2 x.1 = true) : OOK P (O.withOrder tab) I where
  call := oo.call
  loop := oo.loop
  op := oo.op
  tail := oo.tail
  order := by
    intro f rid l ops hp ht
    obtain ⟨fn, body, h1, h2, h3⟩ := hp
    unfold Orac.withOrder ordOf at ht
    simp only at ht
    split at ht
    · cases ht
    rename_i T hT
    have hc := h _ (lkp_mem hT)
    unfold chkO at hc
    simp only [h1, h2] at hc
    have := List.all_eq_true.1 hc (rid, ops) (regsD_part h3 _ (by simp [regsD]))
    simp only [ht] at this
    exact this
end Go.Sy
end

section
namespace Go.Sy
open Go Go.RowKit

/-- what is known of s, if it is one of the powers 2 .. 256 -/
def powsB (s : SI) : SB := .or (.eq s (.lit 2)) (.or (.eq s (.lit 4)) (.or (.eq s (.lit 8)) (.or (.eq s (.lit 16)) (.or (.eq s (.lit 32)) (.or (.eq s (.lit 64)) (.or (.eq s (.lit 128)) (.eq s (.lit 256))))))))
def bndsB : SB → PC
  | .or (.eq s (.lit n)) r => if SB.beq (.or (.eq s (.lit n)) r) (powsB s) then [(.lt s (.lit 2), false), (.lt (.lit 256) s, false)] else []
  | _ => []
/-- the ways in which a condition is as it is said -/
def splitB : SB → Bool → List PC
  | .and a b, true => (splitB a true).flatMap fun p => (splitB b true).map fun q => q ++ p
  | .and a b, false => splitB b false ++ (splitB a false).flatMap fun p => (splitB b true).map fun q => p ++ q
  | .not a, v => splitB a (!v)
  | .or a b, true => [(.or a b, true) :: bndsB (.or a b)]
  | c, v => [[(c, v)]]
def splitP : PC → List PC
  | [] => [[]]
  | (c, v) :: r => (splitB c v).flatMap fun p => (splitP r).map fun q => p ++ q
def splitC (c : CLeaf) : List CLeaf := (splitP c.pc).map fun p => { c with pc := p }
def splitL (l : List CLeaf) : List CLeaf := l.flatMap splitC

section
variable {G : Type} {ν : Env G}
theorem bndsB_den {c : SB} (h : c.den ν = true) : pcDen ν (bndsB c) := by
  unfold bndsB
  split
  · rename_i s n r
    split
    · rename_i hb
      have hb := SB.beq_eq hb
      rw [hb] at h
      simp only [powsB, SB.den, Bool.or_eq_true, beq_iff_eq] at h
      simp only [SI.den] at h
      refine pcDen_cons ?_ (pcDen_one ?_)
      · simp only [SB.den]; simp only [SI.den]; exact decide_eq_false (by omega)
      · simp only [SB.den]; simp only [SI.den]; exact decide_eq_false (by omega)
    · exact pcDen_nil _
  · exact pcDen_nil _
theorem splitB_den : ∀ (c : SB) (v : Bool), c.den ν = v → ∃ p ∈ splitB c v, pcDen ν p := by
  intro c
  induction c with
  | and a b iha ihb =>
    intro v h
    simp only [SB.den] at h
    cases v with
    | true =>
      simp only [Bool.and_eq_true] at h
      obtain ⟨p, hp, hpd⟩ := iha true h.1
      obtain ⟨q, hq, hqd⟩ := ihb true h.2
      exact ⟨q ++ p, List.mem_flatMap.2 ⟨p, hp, List.mem_map.2 ⟨q, hq, rfl⟩⟩, pcDen_append hqd hpd⟩
    | false =>
      cases hb : b.den ν with
      | false =>
        obtain ⟨p, hp, hpd⟩ := ihb false hb
        exact ⟨p, List.mem_append_left _ hp, hpd⟩
      | true =>
        rw [hb, Bool.and_true] at h
        obtain ⟨p, hp, hpd⟩ := iha false h
        obtain ⟨q, hq, hqd⟩ := ihb true hb
        exact ⟨p ++ q, List.mem_append_right _ (List.mem_flatMap.2 ⟨p, hp, List.mem_map.2 ⟨q, hq, rfl⟩⟩), pcDen_append hpd hqd⟩
  | not a ih =>
    intro v h
    simp only [SB.den] at h
    obtain ⟨p, hp, hpd⟩ := ih (!v) (by rw [← h]; simp)
    exact ⟨p, by cases v <;> exact hp, hpd⟩
  | or a b _ _ =>
    intro v h
    cases v with
    | true => exact ⟨_, List.mem_singleton.2 rfl, pcDen_cons h (bndsB_den h)⟩
    | false => exact ⟨_, List.mem_singleton.2 rfl, pcDen_one h⟩
  | _ => intro v h; exact ⟨_, List.mem_singleton.2 rfl, pcDen_one h⟩
theorem splitP_den : ∀ (l : PC), pcDen ν l → ∃ p ∈ splitP l, pcDen ν p
  | [], _ => ⟨[], by simp [splitP], pcDen_nil _⟩
  | (c, v) :: r, h => by
    obtain ⟨p, hp, hpd⟩ := splitB_den c v (h c v (List.mem_cons_self ..))
    obtain ⟨q, hq, hqd⟩ := splitP_den r (fun d b hm => h d b (List.mem_cons_of_mem _ hm))
    exact ⟨p ++ q, List.mem_flatMap.2 ⟨p, hp, List.mem_map.2 ⟨q, hq, rfl⟩⟩, pcDen_append hpd hqd⟩
end
/-- Said in pieces. -/
theorem splitL_ok {G : Type} {I : In G} {ou0 ou : List CLeaf} (h : ∀ c ∈ ou0, ∀ ν : Env G, ν.I = I → pcDen ν c.pc → ∃ c' ∈ ou, c'.bad = c.bad ∧ (∀ ρ, c'.v.den ν ρ = c.v.den ν ρ) ∧ c'.hp.Sublist c.hp ∧ pcDen ν c'.pc) :
    ∀ c ∈ ou0, ∀ ν : Env G, ν.I = I → pcDen ν c.pc → ∃ c' ∈ splitL ou, c'.bad = c.bad ∧ (∀ ρ, c'.v.den ν ρ = c.v.den ν ρ) ∧ c'.hp.Sublist c.hp ∧ pcDen ν c'.pc := by
  intro c hc ν hI hp
  obtain ⟨c1, m1, e1, e2, e3, e4⟩ := h c hc ν hI hp
  obtain ⟨p, hp2, hpd⟩ := splitP_den c1.pc e4
  exact ⟨{ c1 with pc := p }, List.mem_flatMap.2 ⟨c1, m1, List.mem_map.2 ⟨p, hp2, rfl⟩⟩, e1, e2, e3, hpd⟩
end Go.Sy
end

section
namespace Go.Sy
open Go Go.RowKit

def boolRow (ty : Nat) (l : SL) : SG := .app 48 (.var 0) (.var 0) (.lit (.ofNat ty)) (.lit 0) (.lit 0) (.lit 0) l
def asB : SBk → Option (Nat × SL)
  | .res (.app f _ _ (.lit (.ofNat ty)) _ _ _ l) => if Nat.beq f 48 then some (ty, l) else none
  | _ => none
def makeB (P : Program) (nm : Nat) (pc : PC) (hp : Heap) (t : Nat) (len cap : SI) : Option (List (PC × Option (SV × Heap))) :=
  match P.underlying t with
  | some (.slice e) => match sizeT P e, zeroT P e, P.info? e with
    | some 1, some (.bool (.lit false)), some inf =>
      if len.beq cap && Nat.ble inf.bytes 1024 && hav nm (nm + 1) hp && len.av nm (nm + 1) then
        some (ways (need pc [SB.mkLe (.lit 0) len, SB.mkLt len (.lit 1073741824)]) (.sl nm (.lit 0) (SI.mkNat len) (SI.mkNat len), hadd nm (.res (boolRow e (.rep len (.lit 0)))) hp))
      else none
    | _, _, _ => none
  | _ => none
def opBool (P : Program) (nm : Nat) (fr : List SV) (pc : PC) (hp : Heap) (o : Oper) : Option (List (PC × ORes)) :=
  match o.op with
  | .makeSlice t l c => match evalO fr l, evalO fr c with
    | some (.int .i64 len), some (.int .i64 cap) => (makeB P nm pc hp t len cap).map outsVH
    | _, _ => none
  | .load t x => match evalO fr x with
    | some (.ptr b off) => match hget b hp with
      | some bk => match asB bk, P.underlying t with
        | some (_, l), some .bool => some (outsV hp (ways (need pc [SB.mkLe (.lit 0) off, SB.mkLt off (SI.mkLen l)]) (.bool (SB.mkLt (.lit 0) (SI.mkNth l off)))))
        | _, _ => none
      | none => none
    | _ => none
  | .store t x y => match evalO fr x, evalO fr y with
    | some (.ptr b off), some (.bool (.lit true)) => match hget b hp with
      | some bk => match asB bk, sizeT P t with
        | some (ty, l), some 1 => some (outsH (ways (need pc [SB.mkLe (.lit 0) off, SB.mkLt off (SI.mkLen l)]) (hset b (.res (boolRow ty (.mkSet l off (.lit 1)))) hp)))
        | _, _ => none
      | none => none
    | _, _ => none
  | _ => none

section
variable {P : Program} {ν : Env Gh} {ρ : Nat → Nat} {B : Base} {hp : Heap} {w : World}
theorem asB_den (hI : ν.I = inM) {bk : SBk} {ty : Nat} {l : SL} (h : asB bk = some (ty, l)) {F : Nat → Prop} {n : Nat} (hb : BlkDen B ν ρ w F n bk) :
    w.heap[ρ n]? = some (.cells ((l.den ν).map bval).toArray ty (0, 0)) ∧ ∀ k, F k ↔ k = ρ n := by
  unfold asB at h
  split at h
  · rename_i f g g' ty' b c d l'
    split at h
    · rename_i hf
      have := Nat.eq_of_beq_eq_true hf
      subst this
      cases h
      simp only [BlkDen, SG.den, SI.den, hI, inM, xga] at hb
      exact hb.1 trivial
    · cases h
  · cases h
theorem boolRow_den (hI : ν.I = inM) {ty : Nat} {l : SL} {F : Nat → Prop} {n : Nat} (h : w.heap[ρ n]? = some (.cells ((l.den ν).map bval).toArray ty (0, 0)) ∧ ∀ k, F k ↔ k = ρ n) : BlkDen B ν ρ w F n (.res (boolRow ty l)) := by
  simp only [BlkDen, boolRow, SG.den, SI.den, hI, inM, xga]
  exact ⟨fun _ => h, fun hc => absurd rfl hc⟩
theorem boolCell (hI : ν.I = inM) (h : HW B ν ρ hp w) {b ty : Nat} {bk : SBk} {l : SL} (hg : hget b hp = some bk) (ha : asB bk = some (ty, l)) : w.heap[ρ b]? = some (.cells ((l.den ν).map bval).toArray ty (0, 0)) := by
  obtain ⟨F, h1, _, _⟩ := h.foot
  exact (asB_den hI ha (h1 b bk (hget_mem hg))).1
/-- One block turned, whose footprint is known. -/
theorem HW.turnF (h : HW B ν ρ hp w) {n : Nat} {b b' : SBk} (hc : ∀ F, BlkDen B ν ρ w F n b → ∀ k, F k ↔ k = ρ n) (hn : (n, b) ∈ hp) {w' : World} (ho : w'.os = w.os) (ht : w'.tape = w.tape) (hu : w'.output = w.output) (hs : w'.heap.size = w.heap.size)
    (hk : ∀ k, k ≠ ρ n → w'.heap[k]? = w.heap[k]?) (hb : BlkDen B ν ρ w' (fun j => j = ρ n) n b') : HW B ν ρ (hset n b' hp) w' := by
  obtain ⟨F, h1, h2, h3⟩ := h.foot
  have hF := hc _ (h1 n b hn)
  refine ⟨ho.trans h.os, ht.trans h.tape, hu.trans h.output, by rw [hs]; exact h.size, fun k hk' => ?_, by rw [hset_fst]; exact h.nd, ?_⟩
  · rw [hk k (fun e => hk' (e ▸ h2 n b _ hn ((hF _).2 rfl)))]; exact h.kept k hk'
  · have key : ∀ m c, (m, c) ∈ hset n b' hp → ∃ d, (m, d) ∈ hp := fun m c hm => by
      rcases mem_hset h.nd hm with ⟨rfl, rfl⟩ | ⟨hne, hm⟩
      · exact ⟨b, hn⟩
      · exact ⟨c, hm⟩
    refine ⟨F, fun m c hm => ?_, fun m c k hm hFk => ?_, fun m c m' c' k hm hm' hk1 hk2 => ?_⟩
    · rcases mem_hset h.nd hm with ⟨rfl, rfl⟩ | ⟨hne, hm⟩
      · have : F m = fun j => j = ρ m := by funext j; exact propext (hF j)
        rw [this]; exact hb
      · exact BlkDen.world (fun k hFk => hk _ (fun e => hne (h3 m c n b k hm hn hFk ((hF k).2 e)))) (h1 m c hm)
    · obtain ⟨d, hd⟩ := key m c hm
      exact h2 m d k hd hFk
    · obtain ⟨d, hd⟩ := key m c hm
      obtain ⟨d', hd'⟩ := key m' c' hm'
      exact h3 m d m' d' k hd hd' hk1 hk2

theorem repB : ∀ m, denL ν ρ (repL m [SV.bool (.lit false)]) = (List.replicate m (0 : Int)).map bval
  | 0 => rfl
  | m + 1 => by simp [repL, denL, SV.den, SB.den, repB m, List.replicate_succ, bval]
theorem makeB_run (hI : ν.I = inM) (h : HW B ν ρ hp w) {nm t : Nat} {pc : PC} (hd : pcDen ν pc) {len cap : SI} {l : List (PC × Option (SV × Heap))} (hl : makeB P nm pc hp t len cap = some l) :
    ∃ r ∈ l, ∃ ν' ρ', Agree nm (nm + 1) ν ν' ρ ρ' ∧ pcDen ν r.1 ∧ ∀ y, r.2 = some y → ∃ w', (Instr.makeSlice t (.int .i64 (len.den ν)) (.int .i64 (cap.den ν))).run P w = .ok (y.1.den ν' ρ') w' ∧ HW B ν' ρ' y.2 w' := by
  unfold makeB at hl
  split at hl
  case h_2 => cases hl
  rename_i e hu
  split at hl
  case h_2 => cases hl
  rename_i inf hn hz hinf
  obtain ⟨i, zv, hi, hzv, hzd⟩ := zeroT_info (ν := ν) (ρ := ρ) hz
  have hii : inf = i := Option.some.inj (hinf.symm.trans hi)
  subst hii
  have hsz : inf.size = 1 := by unfold sizeT at hn; rw [hi] at hn; simpa using hn
  split at hl
  case isFalse => cases hl
  rename_i hc
  simp only [Bool.and_eq_true] at hc
  obtain ⟨⟨⟨q1, q4⟩, q5⟩, q6⟩ := hc
  have q1 := SI.beq_eq q1
  have q4 := Nat.le_of_ble_eq_true q4
  subst q1
  have hag := agree_upd (ν := ν) (ρ := ρ) nm w.heap.size
  have e1 : upd ρ nm w.heap.size nm = w.heap.size := by simp [upd]
  cases hl
  obtain ⟨r, hr, h1, h2⟩ := ways_den (ν := ν) (cs := [SB.mkLe (.lit 0) len, SB.mkLt len (.lit 1073741824)]) (SV.sl nm (.lit 0) (SI.mkNat len) (SI.mkNat len), hadd nm (.res (boolRow e (.rep len (.lit 0)))) hp) hd
  refine ⟨r, hr, ν, upd ρ nm w.heap.size, hag, h1, fun y hy => ?_⟩
  obtain ⟨rfl, hc⟩ := h2 y hy
  have c1 := hc (SB.mkLe (.lit 0) len) (by simp)
  have c2 := hc (SB.mkLt len (.lit 1073741824)) (by simp)
  rw [SB.mkLe_den] at c1
  rw [SB.mkLt_den] at c2
  replace c1 : (0 : Int) ≤ len.den ν := of_decide_eq_true c1
  replace c2 : len.den ν < 1073741824 := of_decide_eq_true c2
  obtain ⟨m, hm⟩ : ∃ m : Nat, len.den ν = (m : Int) := ⟨(len.den ν).toNat, by omega⟩
  have hb : (inf.bytes : Int) * ((m : Nat) : Int) ≤ 281474976710656 := by
    have : inf.bytes * m ≤ 1024 * 1073741824 := Nat.mul_le_mul q4 (by omega)
    have h2 : ((inf.bytes * m : Nat) : Int) ≤ 281474976710656 := by omega
    rwa [Int.natCast_mul] at h2
  have hrun := run_make (P := P) w t e inf zv hu hi hzv .i64 .i64 ((m : Nat) : Int) ((m : Nat) : Int) (by omega) (Int.le_refl _) hb (by omega)
  have hcells : madeCells zv.cells (m * 1) = ((List.replicate m (0 : Int)).map bval).toArray := by
    have := range_rep (ν := ν) (ρ := ρ) (.bool (.lit false)) m 1 rfl (Nat.le_refl _)
    rw [← hzd] at this
    rw [← repB (ν := ν) (ρ := ρ)]
    exact this
  simp only [Int.toNat_natCast, hsz, hcells] at hrun
  refine ⟨w.alloc (.cells ((List.replicate m (0 : Int)).map bval).toArray e), ?_, h.new (n := nm) hag q5 (boolRow_den hI ?_)⟩
  · simp only [SV.den, SI.den, SI.mkNat_den, e1, hm, Int.toNat_natCast]
    exact hrun
  · simp only [SL.den, SI.den, hm, Int.toNat_natCast, e1]
    exact ⟨heap_alloc_new w _, fun _ => trivial⟩

theorem opBool_ok {O : Orac} (oo : OOK P O inM) : OOK P (O.withOp (opBool P)) inM := by
  refine withOp_ok oo ?_
  intro nm fr pc hp o outs hk B ν ρ a w hI hf hpc hw
  unfold opBool at hk
  split at hk
  · rename_i t x y hop
    split at hk
    case h_2 => cases hk
    rename_i len cap hx1 hy1
    simp only [Option.map_eq_some_iff] at hk
    obtain ⟨l', hl, rfl⟩ := hk
    obtain ⟨r, hr, ν', ρ', hag, hd, hrun⟩ := makeB_run hI hw hpc hl
    refine out_VH (by rw [hop]; rfl) hr hag hd (fun y hy => ?_)
    obtain ⟨w', h1, h2⟩ := hrun y hy
    exact ⟨w', by simp only [execOp, hop, hf.eval hx1, hf.eval hy1, SV.den, Sem.run_bind, h1, Result.andThen_ok, Sem.run_pure], h2⟩
  · rename_i t x hop
    split at hk
    case h_2 => cases hk
    rename_i b off hx
    split at hk
    case h_2 => cases hk
    rename_i bk hg
    split at hk
    case h_2 => cases hk
    rename_i ty l ha hu
    cases hk
    obtain ⟨z, hz, hzd, hzc⟩ := ways_den (ν := ν) (cs := [SB.mkLe (.lit 0) off, SB.mkLt off (SI.mkLen l)]) (SV.bool (SB.mkLt (.lit 0) (SI.mkNth l off))) hpc
    refine out_V hw hz hzd fun v hv => ?_
    obtain ⟨rfl, hcs⟩ := hzc v hv
    simp only [List.mem_cons, List.not_mem_nil, or_false, forall_eq_or_imp, forall_eq, SB.mkLe_den, SB.mkLt_den, SI.mkLen_den, decide_eq_true_eq] at hcs
    simp only [SI.den] at hcs
    have hheap := boolCell hI hw hg ha
    have hlt : (off.den ν).toNat < (l.den ν).length := by omega
    have hcell : w.cell? ⟨ρ b, (off.den ν).toNat, none⟩ = some (bval ((l.den ν).getD (off.den ν).toNat 0)) := by
      rw [cell_at hheap, List.getElem?_map, getD_some hlt, Option.map_some]
    have hagg : (isAgg t).run P w = .ok false w := by simp [isAgg, run_underlying hu]
    have hload : (Instr.loadAt t ((SV.ptr b off).den ν ρ)).run P w = .ok (bval ((l.den ν).getD (off.den ν).toNat 0)) w := by
      simp [SV.den, Instr.loadAt, Instr.sureAddr, loadVar, hagg, hcell]
    have e : (SV.bool (SB.mkLt (.lit 0) (SI.mkNth l off))).den ν ρ = bval ((l.den ν).getD (off.den ν).toNat 0) := by
      simp only [SV.den, SB.mkLt_den, SI.mkNth_den, bval]
      simp only [SI.den]
      exact congrArg Value.bool (decide_eq_decide.2 Iff.rfl)
    rw [e]
    simp [execOp, hop, hf.eval hx, hload]
  · rename_i t x y hop
    split at hk
    case h_2 => cases hk
    rename_i b off hx hy
    split at hk
    case h_2 => cases hk
    rename_i bk hg
    split at hk
    case h_2 => cases hk
    rename_i ty l ha hs
    cases hk
    obtain ⟨z, hz, hzd, hzc⟩ := ways_den (ν := ν) (cs := [SB.mkLe (.lit 0) off, SB.mkLt off (SI.mkLen l)]) (hset b (.res (boolRow ty (.mkSet l off (.lit 1)))) hp) hpc
    refine out_H hz hzd fun h' hh => ?_
    obtain ⟨rfl, hcs⟩ := hzc h' hh
    simp only [List.mem_cons, List.not_mem_nil, or_false, forall_eq_or_imp, forall_eq, SB.mkLe_den, SB.mkLt_den, SI.mkLen_den, decide_eq_true_eq] at hcs
    simp only [SI.den] at hcs
    have hr := boolCell hI hw hg ha
    have hlt : (off.den ν).toNat < (l.den ν).length := by omega
    have hst := run_storeCells_at P (ρ b) (off.den ν).toNat ty [Value.bool true] 0 _ w hr (by simp; omega) (fun x hx => by simp at hx; subst hx; rfl)
    have hsp : splice ((l.den ν).map bval) (off.den ν).toNat [Value.bool true] = ((l.den ν).set (off.den ν).toNat 1).map bval := by
      rw [List.map_set]
      have : bval 1 = Value.bool true := rfl
      rw [this]
      unfold splice
      refine List.ext_getElem? fun j => ?_
      rw [List.getElem?_set]
      simp only [List.append_assoc, List.length_map]
      by_cases h1 : j < (off.den ν).toNat
      · rw [List.getElem?_append_left (by simp; omega), List.getElem?_take, if_pos h1, if_neg (by omega)]
      · rw [List.getElem?_append_right (by simp; omega)]
        have hl : (List.take (off.den ν).toNat ((l.den ν).map bval)).length = (off.den ν).toNat := by simp; omega
        rw [hl]
        by_cases h2 : (off.den ν).toNat = j
        · subst h2
          simp [hlt]
        · rw [if_neg h2, List.getElem?_append_right (by simp; omega), List.getElem?_drop]
          congr 1
          simp only [List.length_cons, List.length_nil]
          omega
    refine ⟨w.setRow (ρ b) (splice ((l.den ν).map bval) (off.den ν).toNat [Value.bool true]).toArray, ?_, ?_⟩
    · have hst2 : (Instr.storeAt t ((SV.ptr b off).den ν ρ) (.bool true)).run P w = .ok () (w.setRow (ρ b) (splice ((l.den ν).map bval) (off.den ν).toNat [Value.bool true]).toArray) := by
        simp only [SV.den, Instr.storeAt, Instr.sureAddr, storeVar, Sem.run_bind, Sem.run_pure, Result.andThen_ok, sizeT_run hs, Sem.run_ite, Value.cells, List.size_toArray, List.length_cons, List.length_nil, Nat.zero_add, ne_eq, not_true_eq_false, if_false]
        simp only [Nat.add_zero] at hst
        simpa [splice] using hst
      have hyv := hf.eval hy
      simp only [SV.den, SB.den] at hyv
      simp [execOp, hop, hf.eval hx, hyv, hst2]
    · have hrow := setRow_heap w (ρ b) _ (splice ((l.den ν).map bval) (off.den ν).toNat [Value.bool true]).toArray ty _ hr
      refine hw.turnF (fun F hF => (asB_den hI ha hF).2) (hget_mem hg) rfl rfl rfl (by simp) (fun k hk => setRow_other w (ρ b) k _ hk) (boolRow_den hI ⟨?_, fun _ => Iff.rfl⟩)
      rw [hsp] at hrow ⊢
      rw [SL.mkSet_den]
      simp only [SI.den]
      exact hrow
  · cases hk
end
end Go.Sy
end

section
namespace Go.Sy
open Go Go.RowKit

def upF : Lf → Option SI
  | (n, [(a, .ofNat 1)]) => some (SI.mkAdd a (.lit n))
  | _ => none
def cutI (e : SI) : SI := match upF (lin e 1 (0, [])) with
  | some e' => e'
  | none => e
def cutV : SV → SV
  | .sl b o n c => .sl b o (cutI n) c
  | v => v
/-- the room is as long as the list; so it is for each 'hi' that the list reaches -/
def roomU1 (pc : PC) (c : SI) (L : SI) : Option SV → PC
  | some (.int _ h) => match decB pc (SB.mkLt L h) with
    | some false => [(.lt c h, false), (.lt c L, false)]
    | _ => [(.lt c L, false)]
  | _ => [(.lt c L, false)]
def roomU0 (pc : PC) (c : SI) (L : SI) : Option SV → PC
  | some (.int _ l) => match decB pc (SB.mkLt l L) with
    | some true => [(.lt l c, true)]
    | _ => []
  | _ => []
def roomU (pc : PC) (hp : Heap) (lo hi : Option SV) : SV → PC
  | .sl b _ _ cap => match hget b hp with
    | some (.row _ l c _) => if c.beq cap then roomU1 pc c (lenS pc l) hi ++ roomU0 pc c (lenS pc l) lo else []
    | _ => []
  | _ => []
def opSliceU (P : Program) (_ : Nat) (fr : List SV) (pc : PC) (hp : Heap) (o : Oper) : Option (List (PC × ORes)) :=
  match o.op with
  | .slice t x lo hi none => match evalO fr x, optL fr lo, optL fr hi with
    | some v, some l, some h => match roomU pc hp l h v with
      | [] => none
      | c :: q => (sliceT P (c :: q ++ pc) t v l h).map fun ls => outsV hp (ls.filterMap fun y => (prP (c :: q ++ pc) y.1).map fun p => (p, y.2.map cutV))
    | _, _, _ => none
  | _ => none

section
variable {P : Program} {G : Type} {ν : Env G} {ρ : Nat → Nat} {B : Base} {hp : Heap} {w : World}
theorem cutI_den (e : SI) : (cutI e).den ν = e.den ν := by
  unfold cutI
  split
  · rename_i e' h
    unfold upF at h
    split at h
    · rename_i n a hl
      cases h
      have := lin_den (ν := ν) e 1 (0, [])
      rw [hl] at this
      simp only [lDen, tDen] at this
      rw [SI.mkAdd_den]
      simp only [SI.den]
      have e1 : (Int.ofNat 1 : Int) = 1 := rfl
      rw [e1] at this
      omega
    · cases h
  · rfl
theorem cutV_den (v : SV) : (cutV v).den ν ρ = v.den ν ρ := by
  unfold cutV
  split
  · simp only [SV.den, cutI_den]
  · rfl
theorem roomU_den {pc : PC} (hd : pcDen ν pc) (hw : HW B ν ρ hp w) (lo hi : Option SV) (v : SV) : pcDen ν (roomU pc hp lo hi v) := by
  unfold roomU
  split
  case h_2 => exact pcDen_nil ν
  rename_i b off len cap
  split
  case h_2 => exact pcDen_nil ν
  rename_i k l c ty hg
  split
  case isFalse => exact pcDen_nil ν
  obtain ⟨F, h1, _, _⟩ := hw.foot
  have hb := h1 b _ (hget_mem hg)
  simp only [BlkDen] at hb
  obtain ⟨⟨rest, _, hcap, _⟩, _⟩ := hb
  have one : (SB.lt c (lenS pc l)).den ν = false := by
    simp only [SB.den, lenS_den hd]
    exact decide_eq_false (by omega)
  refine pcDen_append ?_ ?_
  rotate_left
  · unfold roomU0
    split
    · split
      · rename_i hdec
        have := decB_den hd hdec
        rw [SB.mkLt_den, lenS_den hd] at this
        have h2 := of_decide_eq_true this
        refine pcDen_one ?_
        simp only [SB.den]
        exact decide_eq_true (by omega)
      · exact pcDen_nil ν
    · exact pcDen_nil ν
  unfold roomU1
  split
  · rename_i k' h
    split
    · rename_i hdec
      have := decB_den hd hdec
      rw [SB.mkLt_den, lenS_den hd] at this
      have h2 := of_decide_eq_false this
      refine pcDen_cons ?_ (pcDen_one one)
      simp only [SB.den]
      exact decide_eq_false (by omega)
    · exact pcDen_one one
  · exact pcDen_one one
theorem opSliceU_ok {O : Orac} {I : In G} (oo : OOK P O I) : OOK P (O.withOp (opSliceU P)) I := by
  refine withOp_ok oo ?_
  intro nm fr pc hp o outs hk B ν ρ a w hI hf hpc hw
  unfold opSliceU at hk
  split at hk
  case h_2 => cases hk
  rename_i t x lo hi hop
  split at hk
  case h_2 => cases hk
  rename_i v l h hv hl hh
  have hroom := roomU_den hpc hw l h v
  split at hk
  case h_1 => cases hk
  rename_i c q hq
  rw [hq] at hroom
  simp only [Option.map_eq_some_iff] at hk
  obtain ⟨ls, hls, rfl⟩ := hk
  obtain ⟨r, hr, hp', hrun⟩ := sliceT_run (ν := ν) (ρ := ρ) (pcDen_append hroom hpc) hls w
  obtain ⟨p, hpp, hpd⟩ := prP_den (pcDen_append hroom hpc) hp'
  refine out_V hw (List.mem_filterMap.2 ⟨r, hr, by rw [hpp]; rfl⟩) hpd fun u hu => ?_
  simp only [Option.map_eq_some_iff] at hu
  obtain ⟨u', hu', rfl⟩ := hu
  have := hrun u' hu'
  simp only [execOp, hop, hf.eval hv, optL_den hf hl, optL_den hf hh, Option.map_none]
  simp [this, cutV_den]
end
end Go.Sy
end

section
namespace Go.Sy
open Go Go.RowKit

/-- the names of the head of the loop at s, within a loop's round -/
def nm2At (s : Nat) : Nat := 2 ^ 700 + (s * 256 + 255) * (2 ^ 650 / K0)
def LO8 : Nat := 2 ^ 710
def SZ8 : Nat := 2 ^ 650
theorem big700 : (1000 : Nat) ≤ 2 ^ 700 := by decide +kernel
theorem nm2_small {s m : Nat} (h : m < 1000) : out (nm2At s) (nm2At s + 64) m = true := by
  unfold out nm2At
  have h1 := big700
  generalize 2 ^ 700 = A at h1 ⊢
  generalize (s * 256 + 255) * (2 ^ 650 / K0) = x
  rw [Bool.or_eq_true]
  exact .inl (Nat.ble_eq_true_of_le (by omega))
theorem big710 : 2 ^ 700 + 25600255 * (2 ^ 650 / K0) + 64 ≤ 2 ^ 710 := by decide +kernel
theorem nm2_mul (s u : Nat) (hs : s ≤ 100000) : (s * 256 + 255) * u ≤ 25600255 * u := Nat.mul_le_mul_right _ (by omega)
theorem nm2_big {s j : Nat} (hs : Nat.ble s 100000 = true) (h : j < 64) : out LO8 (LO8 + SZ8) (nm2At s + j) = true := by
  have hs := Nat.le_of_ble_eq_true hs
  have h1 := nm2_mul s (2 ^ 650 / K0) hs
  have h2 := big710
  unfold out nm2At LO8
  generalize (s * 256 + 255) * (2 ^ 650 / K0) = x at h1 ⊢
  generalize 25600255 * (2 ^ 650 / K0) = y at h1 h2
  generalize 2 ^ 700 = A at h2 ⊢
  generalize 2 ^ 710 = C at h2 ⊢
  rw [Bool.or_eq_true]
  exact .inl (Nat.ble_eq_true_of_le (by omega))
theorem big8 : (1000 : Nat) ≤ 2 ^ 710 := by decide +kernel
theorem lo8_small {m : Nat} (h : m < 1000) : out LO8 (LO8 + SZ8) m = true := by
  unfold out LO8
  have h1 := big8
  generalize 2 ^ 710 = C at h1 ⊢
  rw [Bool.or_eq_true]
  exact .inl (Nat.ble_eq_true_of_le (by omega))
attribute [irreducible] LO8 SZ8
section
variable {P : Program} {G : Type} {O : Orac} {I : In G}
/-- A loop within a loop: its head is a frame and a heap with names; each round, each end is that with other values. 'J': what holds of the values; 'm': what each round lowers. -/
theorem loopU_ok (pr : PR P) (oo : OOK P O I) {f s n it : Nat} {nm lo sz : Nat} (hsm : ∀ {m : Nat}, m < 1000 → out nm (nm + 64) m = true) (hbg : ∀ {j : Nat}, j < 64 → out lo (lo + sz) (nm + j) = true) (hbs : ∀ {m : Nat}, m < 1000 → out lo (lo + sz) m = true) (h1 : (loopsAt P f s).length = 1) {fr0 frI : List SV} {hp0 hpI : Heap} {pcI bads : PC} {tg : List Tgt} {sums : List SumT} {start : Mt} (d : G)
    (hbody : (codeX P O lo sz f n it (loopAt P f s) frI pcI hpI).bind (sumsT P nm lo sz (⟨.normal, frI, hpI, pcI⟩ :: tg)) = some sums)
    (hst : mAll nm 0 0 P fr0 hp0 frI hpI = some start)
    (J : Env G → Vals G → Prop) (m : Env G → Vals G → Nat)
    (hstart : ∀ ν, ν.I = I → (∀ x ∈ bads, x.1.den ν ≠ x.2) → J ν (start.vals d ν) ∧ pcDen (ν.at nm (start.vals d ν)) pcI ∧ start.Owed ν (ν.at nm (start.vals d ν)))
    (round : ∀ t ∈ sums, ∀ ν x ν2, ν.I = I → (∀ y ∈ bads, y.1.den ν ≠ y.2) → J ν x → pcDen (ν.at nm x) pcI → RF nm ν x ν2 → pcDen ν2 t.pc →
      match t.ex with
      | .normal => J ν (t.mt.vals d ν2) ∧ pcDen (ν.at nm (t.mt.vals d ν2)) pcI ∧ m ν (t.mt.vals d ν2) < m ν x ∧ t.mt.Owed ν2 (ν.at nm (t.mt.vals d ν2))
      | .bad => False
      | _ => (∀ g, tg[t.k]? = some g → pcDen (ν.at nm (t.mt.vals d ν2)) g.pc) ∧ t.mt.Owed ν2 (ν.at nm (t.mt.vals d ν2))) {O' : Orac} (oo' : OOK P O' I) :
    OOK P (O'.withLoop f s nm fr0 hp0 (mkM nm tg bads)) I := by
  refine withLoop_ok oo' h1 ?_
  intro pc sub hsub hpart B ν ρ Q hQ hI hl act w hpc hf hw
  unfold mkM at hl
  cases hp : pav nm (nm + 64) pc with
  | false => rw [hp] at hl; exact (hl ⟨.bad, [], [], []⟩ (by simp) act w ⟨ν, ρ, Agree.refl _ _ _ _, pcDen_nil _, fun h => h.elim⟩).elim
  | true =>
    rw [hp] at hl
    simp only [if_true] at hl
    have hbad : ∀ x ∈ bads, x.1.den ν ≠ x.2 := prune_denG hpc fun x hx he =>
      (hl ⟨.bad, [], x :: pc, []⟩ (List.mem_append_right _ (List.mem_map.2 ⟨x, hx, rfl⟩)) act w ⟨ν, ρ, Agree.refl _ _ _ _, pcDen_one' he hpc, fun h => h.elim⟩).elim
    have hmono : ∀ {ν3 : Env G} {ρ3 : Nat → Nat}, Agree nm (nm + 64) ν ν3 ρ ρ3 → Agree nm (nm + sub) ν ν3 ρ ρ3 := fun h => h.mono (Nat.ble_eq_true_of_le (Nat.le_refl _)) (Nat.ble_eq_true_of_le (by omega))
    cases hb : codeX P O lo sz f n it (loopAt P f s) frI pcI hpI with
    | none => rw [hb] at hbody; cases hbody
    | some lsB =>
      rw [hb] at hbody
      simp only [Option.bind_some] at hbody
      obtain ⟨g1, g2, g3⟩ := hstart ν hI hbad
      -- one way from what is there to the head's form
      have conv : ∀ {lo' sz' : Nat} {x1 : Vals G} {ν1 ν2 : Env G} {ρ1 ρ2 : Nat → Nat} {mt : Mt} {us ts : List SV} {hu ht : Heap}, Agree nm (nm + 64) ν ν1 ρ ρ1 → Agree lo' (lo' + sz') ν1 ν2 ρ1 ρ2 → mAll nm lo' sz' P us hu ts ht = some mt → mt.Owed ν2 (ν.at nm (mt.vals d ν2)) →
          ∃ ρ3, Agree nm (nm + 64) ν (ν.at nm (mt.vals d ν2)) ρ ρ3 ∧ (∀ act, FR ν2 ρ2 us act → FR (ν.at nm (mt.vals d ν2)) ρ3 ts act) ∧ ∀ w, HW B ν2 ρ2 hu w → HW B (ν.at nm (mt.vals d ν2)) ρ3 ht w := by
        intro lo' sz' x1 ν1 ν2 ρ1 ρ2 mt us ts hu ht a1 a2 hm ho
        have hfine := mAll_fine hm
        let ρ3 : Nat → Nat := fun m => match inH nm m, lkp m mt.b with | true, some n => ρ2 n | _, _ => ρ m
        have hr3 : ∀ n, out nm (nm + 64) n = true → ρ3 n = ρ n := fun n hn => by
          show (match inH nm n, lkp n mt.b with | true, some n => ρ2 n | _, _ => ρ n) = ρ n
          rw [inH_out hn]
        have a3 : Agree nm (nm + 64) ν (ν.at nm (mt.vals d ν2)) ρ ρ3 := at_agree hr3
        have hsat : mt.Sat nm ν2 (ν.at nm (mt.vals d ν2)) ρ2 ρ3 := mt_sat hfine (fun j hj => at_i hj) (fun j hj => at_l hj) (fun j hj => at_g hj) ho
        have kr : KeepR nm lo' sz' ρ2 ρ3 := fun n h1 h2 => by rw [hr3 n h1, a2.r n h2, a1.r n h1]
        obtain ⟨k1, k2⟩ := mAll_den (okAll_of a1 a2 a3) kr hm hsat
        exact ⟨ρ3, a3, k1, fun w => k2 B w⟩
      obtain ⟨ρ0, s1, s2, s3⟩ := conv (x1 := start.vals d ν) (Agree.refl _ _ ν ρ) (Agree.refl 0 (0 + 0) ν ρ) hst g3
      refine wp_loop_ghost (fun k act w => ∃ x ρ1, Agree nm (nm + 64) ν (ν.at nm x) ρ ρ1 ∧ J ν x ∧ pcDen (ν.at nm x) pcI ∧ m ν x = k ∧ FR (ν.at nm x) ρ1 frI act ∧ HW B (ν.at nm x) ρ1 hpI w) (m ν (start.vals d ν)) ⟨_, ρ0, s1, g1, g2, rfl, s2 _ hf, s3 _ hw⟩ ?_
      rintro k act w ⟨x, ρ1, k1, k2, k3, k4, k5, k6⟩
      refine x_code pr oo hb hpart B (ν.at nm x) ρ1 (Exit.then _ Q) (k1.I.trans hI) (fun ch a w hq => hQ ch a w hq) ?_ act w ⟨ν.at nm x, ρ1, Agree.refl _ _ _ _, k3, fun _ => ⟨k5, k6⟩⟩
      rintro L hL act' w' ⟨ν2, ρ2, e1, e2, e3⟩
      obtain ⟨t, ht, hsum⟩ := sumsT_mem hbody L hL
      have rf : RF nm ν x ν2 :=
        ⟨e1.I.trans k1.I, fun j hj => (e1.i _ (hbg hj)).trans (at_i hj), fun j hj => (e1.l _ (hbg hj)).trans (at_l hj), fun j hj => (e1.g _ (hbg hj)).trans (at_g hj),
          fun j hj => (e1.i _ (hbs hj)).trans (at_io (hsm hj)), fun j hj => (e1.l _ (hbs hj)).trans (at_lo (hsm hj)), fun j hj => (e1.g _ (hbs hj)).trans (at_go (hsm hj)), fun j hj => (e1.b _ (hbs hj))⟩
      have hr := round t ht ν x ν2 hI hbad k2 k3 rf
      unfold sumT at hsum
      cases hex : L.ex with
      | normal =>
        rw [hex] at hsum e3
        simp only [Option.map_eq_some_iff] at hsum
        obtain ⟨mt, hm, rfl⟩ := hsum
        obtain ⟨q1, q2, q3, q4⟩ := hr e2
        obtain ⟨hf2, hw2⟩ := e3 trivial
        obtain ⟨ρ3, b1, b2, b3⟩ := conv (x1 := x) k1 e1 hm q4
        exact ⟨_, by rw [← k4]; exact q3, _, ρ3, b1, q1, q2, rfl, b2 _ hf2, b3 _ hw2⟩
      | exit i =>
        rw [hex] at hsum e3
        simp only [Option.map_eq_some_iff] at hsum
        obtain ⟨⟨k, mt⟩, hfind, rfl⟩ := hsum
        obtain ⟨-, t', ht', m2, hm⟩ := findT_some hfind
        rw [Nat.sub_zero] at ht'
        have m1 := List.mem_of_getElem? ht'
        rw [hex] at m2
        obtain ⟨q2, q3⟩ := hr e2
        obtain ⟨hf2, hw2⟩ := e3 trivial
        obtain ⟨ρ3, b1, b2, b3⟩ := conv (x1 := x) k1 e1 hm q3
        have := hl ⟨t'.ex, t'.fr, t'.pc ++ pc, t'.hp⟩ (List.mem_append_left _ (List.mem_map.2 ⟨t', List.mem_filter.2 ⟨m1, by rw [m2]; rfl⟩, rfl⟩)) act' w'
          ⟨_, ρ3, hmono b1, pcDen_append (q2 t' ht') (pcDen_agree b1 hp hpc), fun _ => ⟨b2 _ hf2, b3 _ hw2⟩⟩
        simp only [m2] at this
        exact this
      | ret =>
        rw [hex] at hsum e3
        simp only [Option.map_eq_some_iff] at hsum
        obtain ⟨⟨k, mt⟩, hfind, rfl⟩ := hsum
        obtain ⟨-, t', ht', m2, hm⟩ := findT_some hfind
        rw [Nat.sub_zero] at ht'
        have m1 := List.mem_of_getElem? ht'
        rw [hex] at m2
        obtain ⟨q2, q3⟩ := hr e2
        obtain ⟨hf2, hw2⟩ := e3 trivial
        obtain ⟨ρ3, b1, b2, b3⟩ := conv (x1 := x) k1 e1 hm q3
        have := hl ⟨t'.ex, t'.fr, t'.pc ++ pc, t'.hp⟩ (List.mem_append_left _ (List.mem_map.2 ⟨t', List.mem_filter.2 ⟨m1, by rw [m2]; rfl⟩, rfl⟩)) act' w'
          ⟨_, ρ3, hmono b1, pcDen_append (q2 t' ht') (pcDen_agree b1 hp hpc), fun _ => ⟨b2 _ hf2, b3 _ hw2⟩⟩
        simp only [m2] at this
        exact this
      | bad =>
        rw [hex] at hsum
        simp only [Option.some.injEq] at hsum
        subst hsum
        exact (hr e2).elim
end
end Go.Sy
end

section
namespace Go.Sy
open Go Go.RowKit

/-- A row's ghost: elements of type e, of w cells; its room, its cells' kinds. -/
def stG (g : SG) (e w : Nat) (cap : SI) (ks : SL) : SG := .app 78 g (.var 0) (.lit (.ofNat e)) (.lit (.ofNat w)) cap (.lit 0) ks
structure St where
  g : SG
  e : Nat
  w : Nat
  cap : SI
  ks : SL
def St.full (S : St) : SG := stG S.g S.e S.w S.cap S.ks
def isZ0 : SI → Bool
  | .lit 0 => true
  | _ => false
def isG0 : SG → Bool
  | .var 0 => true
  | _ => false
def asS : SBk → Option St
  | .res (.app f g h (.lit (.ofNat e)) (.lit (.ofNat w)) cap d ks) => if Nat.beq f 78 && isG0 h && isZ0 d then some ⟨g, e, w, cap, ks⟩ else none
  | _ => none
theorem asS_eq {bk : SBk} {S : St} (h : asS bk = some S) : bk = .res S.full := by
  unfold asS at h
  split at h
  · rename_i f g h' e w cap d ks
    split at h
    · rename_i hc
      simp only [Bool.and_eq_true] at hc
      obtain ⟨⟨h1, h2⟩, h3⟩ := hc
      have h1 := Nat.eq_of_beq_eq_true h1
      subst h1
      unfold isG0 at h2
      unfold isZ0 at h3
      split at h2 <;> try cases h2
      split at h3 <;> try cases h3
      cases h
      rfl
    · cases h
  · cases h
/-- how many structs -/
def rowsS (S : St) : SI := .gi 17 S.full (.lit 0) (.lit 0)
def ksOf : SL → Option (List Nat)
  | .nil => some []
  | .cons (.lit (.ofNat n)) r => (ksOf r).map (n :: ·)
  | _ => none
def ksL : List Nat → SL
  | [] => .nil
  | n :: r => .cons (.lit (.ofNat n)) (ksL r)
theorem ksOf_den {G : Type} {ν : Env G} : ∀ {l : SL} {kl : List Nat}, ksOf l = some kl → l.den ν = kl.map Int.ofNat
  | .nil, _, h => by cases h; rfl
  | .cons (.lit (.ofNat n)) r, kl, h => by
    simp only [ksOf, Option.map_eq_some_iff] at h
    obtain ⟨kl', h1, rfl⟩ := h
    simp only [SL.den, SI.den, ksOf_den h1, List.map_cons]
  | .cons (.lit (.negSucc n)) r, _, h => by simp [ksOf] at h
  | .cons (.var _) _, _, h => by simp [ksOf] at h
  | .cons (.add _ _) _, _, h => by simp [ksOf] at h
  | .cons (.sub _ _) _, _, h => by simp [ksOf] at h
  | .cons (.mul _ _) _, _, h => by simp [ksOf] at h
  | .cons (.tdiv _ _) _, _, h => by simp [ksOf] at h
  | .cons (.tmod _ _) _, _, h => by simp [ksOf] at h
  | .cons (.fdiv _ _) _, _, h => by simp [ksOf] at h
  | .cons (.wrap _ _) _, _, h => by simp [ksOf] at h
  | .cons (.nat _) _, _, h => by simp [ksOf] at h
  | .cons (.bits _ _ _ _) _, _, h => by simp [ksOf] at h
  | .cons (.len _) _, _, h => by simp [ksOf] at h
  | .cons (.nth _ _) _, _, h => by simp [ksOf] at h
  | .cons (.gi _ _ _ _) _, _, h => by simp [ksOf] at h
  | .var _, _, h => by simp [ksOf] at h
  | .app _ _, _, h => by simp [ksOf] at h
  | .set _ _ _, _, h => by simp [ksOf] at h
  | .take _ _, _, h => by simp [ksOf] at h
  | .drop _ _, _, h => by simp [ksOf] at h
  | .rep _ _, _, h => by simp [ksOf] at h
  | .gl _ _ _ _, _, h => by simp [ksOf] at h
theorem ksL_den {G : Type} {ν : Env G} : ∀ kl : List Nat, (ksL kl).den ν = kl.map Int.ofNat
  | [] => rfl
  | n :: r => by simp only [ksL, SL.den, SI.den, ksL_den r, List.map_cons]

/-- A value, as a row's cell keeps it: the row's kind, its own, number, words, where these lie, their room. -/
structure CV where
  p : Nat
  k : Nat
  x : SI
  l : SL
  b : Nat
  c : SI
def cellV (P : Program) (pc : PC) (hp : Heap) : SV → Option CV
  | .int k e => some ⟨kNum k, kNum k, e, .nil, 0, .lit 0⟩
  | .bool e => match e.known pc with
    | some true => some ⟨8, 8, .lit 1, .nil, 0, .lit 0⟩
    | some false => some ⟨8, 8, .lit 0, .nil, 0, .lit 0⟩
    | none => none
  | .nilSl => some ⟨10, 9, .lit 0, .nil, 0, .lit 0⟩
  | .sl b (.lit 0) len cap => match hget b hp with
    | some bk => match asRow P bk with
      | some (k, l, c, _) => if kBeq k .u64 && (SI.mkLen l).beq len && c.beq cap then some ⟨10, 10, .lit 0, l, b, c⟩ else none
      | none => none
    | none => none
  | _ => none
def cellVs (P : Program) (pc : PC) (hp : Heap) : List SV → Option (List CV)
  | [] => some []
  | v :: r => match cellV P pc hp v, cellVs P pc hp r with
    | some y, some l => some (y :: l)
    | _, _ => none
def CV.den (ν : Env Gh) (ρ : Nat → Nat) (y : CV) : SC := ⟨y.k, y.x.den ν, y.l.den ν, ρ y.b, (y.c.den ν).toNat⟩
/-- a struct's cells behind a ghost's -/
def addC (nm : Nat) : SG → Nat → List CV → SG
  | X, _, [] => X
  | X, d, y :: r => addC nm (.app 73 X (.var nm) (.lit (.ofNat y.k)) y.x (.lit (.ofNat d)) (.lit 0) y.l) (d + 1) r
def blksV (l : List CV) : List Nat := l.filterMap fun y => if Nat.beq y.k 10 then some y.b else none
def keepB (b : Nat) (l : List CV) (x : Nat × SBk) : Bool := !(Nat.beq x.1 b) && !((blksV l).any (Nat.beq x.1))

theorem kOf_kNum (k : IntKind) : kOf (kNum k) = k := by cases k <;> rfl
theorem kNum_lt (k : IntKind) : kNum k < 8 := by cases k <;> decide
section
variable {P : Program} {ν : Env Gh} {ρ : Nat → Nat} {B : Base} {hp : Heap} {w : World}
theorem kNum_k {k j : IntKind} (h : kBeq k j = true) : k = j := kBeq_eq h
structure CVok (P : Program) (ν : Env Gh) (ρ : Nat → Nat) (hp : Heap) (v : SV) (y : CV) : Prop where
  val : (y.den ν ρ).val = v.den ν ρ
  kind : kOK (y.p : Int) y.k
  nil : y.k = 9 → y.l = .nil
  blk : 10 ≤ y.k → y.k = 10 ∧ ∃ bk ty, (y.b, bk) ∈ hp ∧ asRow P bk = some (.u64, y.l, y.c, ty)
theorem cellV_ok {pc : PC} (hpc : pcDen ν pc) {v : SV} {y : CV} (h : cellV P pc hp v = some y) : CVok P ν ρ hp v y := by
  unfold cellV at h
  split at h
  · rename_i k e
    cases h
    have := kNum_lt k
    refine ⟨?_, .inl rfl, fun _ => rfl, fun h => by simp only at h; omega⟩
    simp only [CV.den, SC.val, SV.den, if_pos this, kOf_kNum]
  · rename_i e
    split at h
    · rename_i hk
      cases h
      have := SB.known_den hpc hk
      refine ⟨?_, .inl rfl, fun _ => rfl, fun h => by simp only at h; omega⟩
      simp [CV.den, SC.val, SV.den, SI.den, this]
    · rename_i hk
      cases h
      have := SB.known_den hpc hk
      refine ⟨?_, .inl rfl, fun _ => rfl, fun h => by simp only at h; omega⟩
      simp [CV.den, SC.val, SV.den, SI.den, this]
    · cases h
  · cases h
    refine ⟨?_, .inr ⟨rfl, rfl⟩, fun _ => rfl, fun h => by simp only at h; omega⟩
    simp [CV.den, SC.val, SV.den]
  · rename_i b len cap
    split at h
    case h_2 => cases h
    rename_i bk hg
    split at h
    case h_2 => cases h
    rename_i k l c ty har
    split at h
    case isFalse => cases h
    rename_i hc
    simp only [Bool.and_eq_true] at hc
    obtain ⟨⟨q1, q2⟩, q3⟩ := hc
    have q1 := kBeq_eq q1
    have q2 := SI.beq_eq q2
    have q3 := SI.beq_eq q3
    subst q1 q2 q3
    cases h
    refine ⟨?_, .inl rfl, fun h => by simp only at h; omega, fun _ => ⟨rfl, bk, ty, hget_mem hg, har⟩⟩
    simp [CV.den, SC.val, SV.den, SI.den, SI.mkLen_den]
  · cases h
theorem cellVs_ok {pc : PC} (hpc : pcDen ν pc) : ∀ {vs : List SV} {l : List CV}, cellVs P pc hp vs = some l → denL ν ρ vs = l.map (fun y => (y.den ν ρ).val) ∧ ∀ y ∈ l, ∃ v ∈ vs, CVok P ν ρ hp v y
  | [], _, h => by cases h; exact ⟨rfl, fun y hy => by cases hy⟩
  | v :: r, l, h => by
    unfold cellVs at h
    split at h
    · rename_i y l' hy hl
      cases h
      obtain ⟨h1, h2⟩ := cellVs_ok hpc hl
      have h3 := cellV_ok (ρ := ρ) hpc hy
      refine ⟨by simp only [denL, List.map_cons, h1, h3.val], fun z hz => ?_⟩
      rcases List.mem_cons.1 hz with rfl | hz
      · exact ⟨v, by simp, h3⟩
      · obtain ⟨v', hv', h4⟩ := h2 z hz
        exact ⟨v', by simp [hv'], h4⟩
    · cases h

/-- Blocks become one; the others stay. -/
theorem HW.regroup {G : Type} {ν ν' : Env G} {ρ ρ' : Nat → Nat} {w' : World} (h : HW B ν ρ hp w) {F : Nat → Nat → Prop} (h1 : ∀ n b, (n, b) ∈ hp → BlkDen B ν ρ w (F n) n b) (h2 : ∀ n b k, (n, b) ∈ hp → F n k → B.own k) (h3 : ∀ n b m c k, (n, b) ∈ hp → (m, c) ∈ hp → F n k → F m k → n = m)
    {nm : Nat} {blk : SBk} {keep : Nat × SBk → Bool} (hag : Agree nm (nm + 1) ν ν' ρ ρ') (hv : hav nm (nm + 1) hp = true) (ho : w'.os = w.os) (ht : w'.tape = w.tape) (hu : w'.output = w.output) (hs : w.heap.size ≤ w'.heap.size)
    {F' : Nat → Prop} (hblk : BlkDen B ν' ρ' w' F' nm blk) (hF' : ∀ k, F' k → w.heap.size ≤ k ∨ ∃ m c, (m, c) ∈ hp ∧ keep (m, c) = false ∧ F m k)
    (hkept : ∀ j, j < w.heap.size → (∀ m c, (m, c) ∈ hp → keep (m, c) = false → ¬ F m j) → w'.heap[j]? = w.heap[j]?) : HW B ν' ρ' (hadd nm blk (hp.filter keep)) w' := by
  have hne := hav_ne hv
  have uniq : ∀ m c c', (m, c) ∈ hp → (m, c') ∈ hp → c = c' := fun m c c' hc hc' => hget_unique h.nd hc hc'
  refine ⟨ho.trans h.os, ht.trans h.tape, hu.trans h.output, Nat.le_trans h.size hs, fun j hj => ?_, hadd_nd ((List.filter_sublist.map _).nodup h.nd) ?_, ?_⟩
  · have hlt : j < w.heap.size := by
      rcases Nat.lt_or_ge j w.heap.size with hl | hl
      · exact hl
      · exact absurd (.inl (Nat.le_trans h.size hl)) hj
    rw [hkept j hlt fun m c hm _ hF => hj (h2 m c j hm hF)]
    exact h.kept j hj
  · intro hm
    obtain ⟨x, hx, he⟩ := List.mem_map.1 hm
    exact hne x.1 x.2 (List.mem_filter.1 hx).1 he
  · have apart : ∀ m c k, (m, c) ∈ hp → keep (m, c) = true → F m k → ¬ F' k := fun m c k hm hk hF hF2 => by
      rcases hF' k hF2 with hge | ⟨m', c', hm', hk', hF3⟩
      · have := BlkDen.lt (h1 m c hm) hF; omega
      · have e := h3 m c m' c' k hm hm' hF hF3
        subst e
        have := uniq m c c' hm hm'
        subst this
        rw [hk] at hk'; cases hk'
    refine ⟨fun m => if m = nm then F' else F m, fun m c hm => ?_, fun m c j hm hj => ?_, fun m c m' c' j hm hm' hj hj' => ?_⟩
    · rcases mem_hadd.1 hm with e | hm
      · cases e; simpa using hblk
      · obtain ⟨hm, hk⟩ := List.mem_filter.1 hm
        have hx := hav_mem hv m c hm
        simp only [hne m c hm, if_false]
        refine BlkDen.agree hag hx.2 hx.1 (BlkDen.world (fun j hj => ?_) (h1 m c hm))
        refine hkept j (BlkDen.lt (h1 m c hm) hj) fun m' c' hm' hk' hF => ?_
        have e := h3 m c m' c' j hm hm' hj hF
        subst e
        have := uniq m c c' hm hm'
        subst this
        rw [hk] at hk'; cases hk'
    · rcases mem_hadd.1 hm with e | hm
      · cases e
        simp only [if_true] at hj
        rcases hF' j hj with hge | ⟨m', c', hm', _, hF⟩
        · exact .inl (Nat.le_trans h.size hge)
        · exact h2 m' c' j hm' hF
      · obtain ⟨hm, hk⟩ := List.mem_filter.1 hm
        simp only [hne m c hm, if_false] at hj; exact h2 m c j hm hj
    · rcases mem_hadd.1 hm with e | hm <;> rcases mem_hadd.1 hm' with e' | hm'
      · cases e; cases e'; rfl
      · cases e
        obtain ⟨hm', hk'⟩ := List.mem_filter.1 hm'
        simp only [if_true] at hj
        simp only [hne m' c' hm', if_false] at hj'
        exact (apart m' c' j hm' hk' hj' hj).elim
      · cases e'
        obtain ⟨hm, hk⟩ := List.mem_filter.1 hm
        simp only [if_true] at hj'
        simp only [hne m c hm, if_false] at hj
        exact (apart m c j hm hk hj hj').elim
      · obtain ⟨hm, _⟩ := List.mem_filter.1 hm
        obtain ⟨hm', _⟩ := List.mem_filter.1 hm'
        simp only [hne m c hm, hne m' c' hm', if_false] at hj hj'
        exact h3 m c m' c' j hm hm' hj hj'

/-- One struct behind a row's structs: in the row's room, or in a new row. -/
theorem st_append {t ty e W : Nat} {inf : TypeInfo} {z : Value} (hut : P.underlying t = some (.slice e)) (hi : P.info? e = some inf) (hz : inf.zero = some z) (hsize : inf.size = W) (hzc : z.cells.size = W) (hW : 1 ≤ W) (hby : inf.bytes ≤ 1024)
    {n : Nat} {vals rest : List Value} (hrow : w.heap[n]? = some (.cells (vals ++ rest).toArray e (0, 0))) {len cap : Nat} (hlen : vals.length = len * W) (hcap : cap * W = vals.length + rest.length)
    {ad : Addr} {c : Nat} {news : List Value} (hnl : news.length = W) (hn1 : ∀ v ∈ news, v.oneCell' = true) (hnews : ∀ j v, news[j]? = some v → w.cell? (ad.add j) = some v) (hsm : len + 1 < 34359738368) (hcm : cap ≤ 9223372036854775807) :
    ∃ n' cap' rest' w', (Builtin.append_ #[t, t] ty #[.slice (some ⟨n, 0, none⟩) len cap, .slice (some ad) 1 c]).run P w = .ok (.slice (some ⟨n', 0, none⟩) (len + 1) cap') w' ∧
      w'.heap[n']? = some (.cells (vals ++ news ++ rest').toArray e (0, 0)) ∧ cap' * W = vals.length + W + rest'.length ∧ cap' ≤ 9223372036854775807 ∧
      w'.os = w.os ∧ w'.tape = w.tape ∧ w'.output = w.output ∧ w.heap.size ≤ w'.heap.size ∧ (n' = n ∨ n' = w.heap.size) ∧ ∀ j, j < w.heap.size → j ≠ n → w'.heap[j]? = w.heap[j]? := by
  have hlc : len ≤ cap := by
    rcases Nat.lt_or_ge cap len with hlt | hge
    · have : cap * W < len * W := Nat.mul_lt_mul_of_pos_right hlt hW
      omega
    · exact hge
  by_cases hroom : len + 1 ≤ cap
  · have hrr : W ≤ rest.length := by
      have h1 : (len + 1) * W ≤ cap * W := Nat.mul_le_mul_right _ hroom
      have h2 : (len + 1) * W = len * W + W := by rw [Nat.add_mul, Nat.one_mul]
      omega
    have hf := run_firstCells_some (P := P) w inf.size 1 ad 1 c news (by simp [hsize, hnl]) hnews
    have hst := run_storeCells_at P n (0 + len * inf.size) e news 0 _ w hrow (by simp [hsize, hnl, hlen]; omega) hn1
    simp only [Nat.add_zero, Nat.zero_add, hsize] at hst
    refine ⟨n, cap, rest.drop W, w.setRow n ((vals ++ news) ++ rest.drop W).toArray, ?_, ?_, by simp only [List.length_drop]; omega, hcm, rfl, rfl, rfl, by simp, .inl rfl, fun j _ hj => setRow_other w n j _ hj⟩
    · have e1 : List.take (len * W) (vals ++ rest) = vals := by rw [← hlen, List.take_append_of_le_length (Nat.le_refl _), List.take_length]
      have e2 : List.drop (len * W + news.length) (vals ++ rest) = rest.drop W := by rw [← hlen, hnl, List.drop_append]; simp
      rw [e1, e2] at hst
      simp only [hsize] at hf
      have hadd : (⟨n, 0, none⟩ : Addr).add (len * W) = ⟨n, len * W, none⟩ := by rw [Addr.add_lit]; simp
      simp [Builtin.append_, run_underlying hut, sizeOf, typeInfo, hi, hsize, Builtin.lenOf, hroom, hf, hadd, hst]
    · rw [setRow_heap w n _ _ e _ hrow]
  · have hge := grownCap_ge w (len + 1) cap e
    have hrun := run_append_grow (P := P) w t ty e inf z hut hi hz ⟨n, 0, none⟩ len cap vals (by simp [hsize, hlen]) (fun j u hu => by
        rw [add_none, cell_at hrow, Nat.zero_add]
        rw [List.getElem?_append_left (List.getElem?_eq_some_iff.1 hu).1]
        exact hu) ad 1 c news (by simp [hsize, hnl]) hnews (by omega) (by omega)
      (growslice_fits (by omega) (by
        have : (len + 1) * inf.bytes ≤ 34359738368 * 1024 := Nat.mul_le_mul (by omega) hby
        omega))
    refine ⟨w.heap.size, grownCap w (len + 1) cap e, (Builtin.zeroCells z.cells (grownCap w (len + 1) cap e - (len + 1))).toList, _, hrun, ?_, ?_, ?_, rfl, rfl, rfl, by simp, .inr rfl, fun j hj _ => ?_⟩
    · rw [show w.heap.size = w.drew.heap.size from rfl, heap_alloc_new w.drew]
      congr 2
      apply Array.ext'
      simp
    · simp only [Array.length_toList, size_zeroCells, hzc, hlen]
      have h1 : grownCap w (len + 1) cap e = (len + 1) + (grownCap w (len + 1) cap e - (len + 1)) := by omega
      calc grownCap w (len + 1) cap e * W = ((len + 1) + (grownCap w (len + 1) cap e - (len + 1))) * W := by rw [← h1]
        _ = len * W + W + (grownCap w (len + 1) cap e - (len + 1)) * W := by rw [Nat.add_mul, Nat.add_mul, Nat.one_mul]
    · have := grownCap_le_maxLen w (len + 1) cap e (by simp only [maxLen]; omega)
      simp only [maxLen] at this
      omega
    · simp only [World.alloc, Array.getElem?_push]
      rw [if_neg (by show ¬ j = w.drew.heap.size; rw [show w.drew.heap.size = w.heap.size from rfl]; omega)]
      rfl
end
end Go.Sy
end

section
namespace Go.Sy
open Go Go.RowKit

/-- a row without structs, of e, with these kinds -/
def St.new (e : Nat) (kl : List Nat) : St := ⟨lsX .nil, e, kl.length, .lit 0, ksL kl⟩
/-- What is there: the row; how many; its room. -/
def oldS (hp : Heap) (e : Nat) (kl : List Nat) : SV → Option (Nat × St × SI × SI)
  | .sl b (.lit 0) len cap => match hget b hp with
    | some (.cells [] ty true) => match len, cap with
      | .lit 0, .lit 0 => if Nat.beq ty e then some (b, St.new e kl, .lit 0, .lit 0) else none
      | _, _ => none
    | some bk => match asS bk with
      | some S => if Nat.beq S.e e && Nat.beq S.w kl.length && S.ks.beq (ksL kl) && len.beq (rowsS S) && cap.beq S.cap then some (b, S, len, cap) else none
      | none => none
    | none => none
  | _ => none
def newS (nm : Nat) (S : St) (cl : List CV) : St := ⟨addC nm S.g 0 cl, S.e, S.w, .var nm, S.ks⟩
def isSt (P : Program) (e : Nat) : Bool := match P.underlying e with
  | some (.struct _) => true
  | _ => false
def appendS (P : Program) (nm : Nat) (pc : PC) (hp : Heap) (t : Nat) (s x : SV) : Option (List (PC × Option (SV × Heap))) :=
  match P.underlying t with
  | some (.slice e) => match P.info? e, zeroT P e, x with
    | some inf, some z, .sl bx (.lit 0) (.lit 1) _ => match hget bx hp with
      | some (.cells cs _ _) => match cellVs P pc hp cs with
        | some cl => match oldS hp e (cl.map (·.p)) s with
          | some (b, S, len, _) =>
            if Nat.beq inf.size cs.length && Nat.beq z.cellsOf.length cs.length && Nat.ble 1 cs.length && Nat.ble inf.bytes 1024 && S.g.av nm (nm + 1) && hav nm (nm + 1) hp && isSt P e then
              some (ways (need pc [SB.mkLt len (.lit 1073741824)]) (.sl nm (.lit 0) (rowsS (newS nm S cl)) (.var nm), hadd nm (.res (newS nm S cl).full) (hp.filter (keepB b cl))))
            else none
          | none => none
        | none => none
      | _ => none
    | _, _, _ => none
  | _ => none
def opAppS (P : Program) (nm : Nat) (fr : List SV) (pc : PC) (hp : Heap) (o : Oper) : Option (List (PC × ORes)) :=
  match o.op with
  | .call { callee := .builtin .append, args, argTypes } => match evalOL fr args.toList, argTypes.toList with
    | some [s, x], [t, u] => if Nat.beq t u then (appendS P nm pc hp t s x).map outsVH else none
    | _, _ => none
  | _ => none

section
variable {P : Program} {ν : Env Gh} {ρ : Nat → Nat} {B : Base} {hp : Heap} {w : World}
theorem x78 (hI : ν.I = inM) (g : SG) (e w' : Nat) (cap : SI) (ks : SL) : (stG g e w' cap ks).den ν = { g.den ν with u := cap.den ν, c := (e : Int) + 1, l := ks.den ν, w := w' } := by
  simp [stG, SG.den, hI, inM, xga, SI.den]
theorem x73 (hI : ν.I = inM) (g : SG) (nm k d : Nat) (x : SI) (l : SL) : (SG.app 73 g (.var nm) (.lit (.ofNat k)) x (.lit (.ofNat d)) (.lit 0) l).den ν = { g.den ν with s := (g.den ν).s ++ [⟨k, x.den ν, l.den ν, (getC (ν.g nm).s d).b, (getC (ν.g nm).s d).c⟩] } := by
  simp [SG.den, hI, inM, xga, SI.den]
/-- the cells that are added, where a ghost of the name nm tells where they lie -/
def cvD (ν : Env Gh) (nm : Nat) : Nat → List CV → List SC
  | _, [] => []
  | d, y :: r => ⟨y.k, y.x.den ν, y.l.den ν, (getC (ν.g nm).s d).b, (getC (ν.g nm).s d).c⟩ :: cvD ν nm (d + 1) r
theorem addC_den (hI : ν.I = inM) (nm : Nat) : ∀ (l : List CV) (X : SG) (d : Nat), (addC nm X d l).den ν = { X.den ν with s := (X.den ν).s ++ cvD ν nm d l }
  | [], X, d => by simp [addC, cvD]
  | y :: r, X, d => by
    rw [addC, addC_den hI nm r, x73 hI]
    simp [cvD]
/-- an environment that tells where new cells lie -/
def envS (ν : Env Gh) (ρ : Nat → Nat) (nm : Nat) (cl : List CV) (cap : Int) : Env Gh :=
  { ν with g := fun m => if m = nm then ghS (cl.map (·.den ν ρ)) else ν.g m, i := fun m => if m = nm then cap else ν.i m }
theorem envS_agree (ν : Env Gh) (ρ : Nat → Nat) (nm : Nat) (cl : List CV) (cap : Int) (k : Nat) : Agree nm (nm + 1) ν (envS ν ρ nm cl cap) ρ (upd ρ nm k) :=
  ⟨rfl, fun m hm => by
    simp only [envS]
    split
    · rename_i h; subst h; rw [out_self] at hm; cases hm
    · rfl, fun m hm => by
    simp only [envS]
    split
    · rename_i h; subst h; rw [out_self] at hm; cases hm
    · rfl, fun _ _ => rfl, fun _ _ => rfl, fun _ _ => rfl, fun _ _ => rfl, fun m hm => by
    unfold upd
    split
    · rename_i h; subst h; rw [out_self] at hm; cases hm
    · rfl⟩
theorem cvD_env {nm : Nat} {cl0 : List CV} {cap : Int} : ∀ (l : List CV) (d : Nat), (∀ j, l[j]? = cl0[d + j]?) → (∀ y ∈ l, y.x.av nm (nm + 1) = true ∧ y.l.av nm (nm + 1) = true) → cvD (envS ν ρ nm cl0 cap) nm d l = l.map (·.den ν ρ)
  | [], _, _, _ => rfl
  | y :: r, d, h, hav' => by
    have hag := envS_agree ν ρ nm cl0 cap 0
    have h0 := h 0
    simp only [List.getElem?_cons_zero, Nat.add_zero] at h0
    have hy := hav' y (by simp)
    have hg : getC ((envS ν ρ nm cl0 cap).g nm).s (d : Int) = y.den ν ρ := by
      simp only [envS, if_true, ghS, getC, Int.toNat_natCast, List.getD_eq_getElem?_getD, List.getElem?_map, ← h0, Option.map_some, Option.getD_some]
    rw [cvD, List.map_cons, cvD_env r (d + 1) (fun j => by
      have := h (j + 1)
      rw [List.getElem?_cons_succ] at this
      rw [this]; congr 1; omega) (fun z hz => hav' z (by simp [hz]))]
    congr 1
    rw [hg, SI.den_agree hag y.x hy.1, SL.den_agree hag y.l hy.2]
    rfl

theorem cellV_av {pc : PC} {lo hi : Nat} (hh : hav lo hi hp = true) {v : SV} {y : CV} (h : cellV P pc hp v = some y) (hv : v.av lo hi = true) : y.x.av lo hi = true ∧ y.l.av lo hi = true := by
  unfold cellV at h
  split at h
  · cases h; exact ⟨hv, rfl⟩
  · split at h <;> cases h <;> exact ⟨rfl, rfl⟩
  · cases h; exact ⟨rfl, rfl⟩
  · rename_i b len cap
    split at h
    case h_2 => cases h
    rename_i bk hg
    split at h
    case h_2 => cases h
    rename_i k l c ty har
    split at h
    case isFalse => cases h
    cases h
    exact ⟨rfl, asRow_av har (hav_mem hh b bk (hget_mem hg)).2⟩
  · cases h
theorem cellVs_av {pc : PC} {lo hi : Nat} (hh : hav lo hi hp = true) : ∀ {vs : List SV} {l : List CV}, cellVs P pc hp vs = some l → avL lo hi vs = true → ∀ y ∈ l, y.x.av lo hi = true ∧ y.l.av lo hi = true
  | [], _, h, _, y, hy => by cases h; cases hy
  | v :: r, l, h, hv, y, hy => by
    unfold cellVs at h
    split at h
    · rename_i y' l' hy' hl
      cases h
      simp only [avL, Bool.and_eq_true] at hv
      rcases List.mem_cons.1 hy with rfl | hy
      · exact cellV_av hh hy' hv.1
      · exact cellVs_av hh hl hv.2 y hy
    · cases h
theorem cellVs_length {pc : PC} : ∀ {vs : List SV} {l : List CV}, cellVs P pc hp vs = some l → l.length = vs.length
  | [], _, h => by cases h; rfl
  | v :: r, l, h => by
    unfold cellVs at h
    split at h
    · rename_i y l' hy hl
      cases h
      simp [cellVs_length hl]
    · cases h

/-- What was there, in memory. -/
theorem oldS_den (hI : ν.I = inM) (hw : HW B ν ρ hp w) {F : Nat → Nat → Prop} (h1 : ∀ n b, (n, b) ∈ hp → BlkDen B ν ρ w (F n) n b) {e : Nat} {kl : List Nat} {s : SV} {b : Nat} {S : St} {len cap : SI} (h : oldS hp e kl s = some (b, S, len, cap)) (hk : 1 ≤ kl.length) :
    s = .sl b (.lit 0) len cap ∧ S.e = e ∧ S.w = kl.length ∧ S.ks = ksL kl ∧ (∃ bk, (b, bk) ∈ hp ∧ (∀ k l c ty, asRow P bk = some (k, l, c, ty) → bk = .cells [] e true)) ∧
    ∃ n : Nat, len.den ν = n ∧ (S.g.den ν).s.length = n * kl.length ∧ ∃ rest : List Value, w.heap[ρ b]? = some (.cells ((S.g.den ν).s.map SC.val ++ rest).toArray e (0, 0)) ∧ (cap.den ν) * (kl.length : Int) = (((S.g.den ν).s.length + rest.length : Nat) : Int) ∧ cap.den ν ≤ 9223372036854775807 ∧
      (∀ i c, (S.g.den ν).s[i]? = some c → kOK ((kl.getD (i % kl.length) 0 : Nat) : Int) c.k) ∧
      (∀ c ∈ (S.g.den ν).s, c.k = 9 → c.l = []) ∧
      (∀ c ∈ (S.g.den ν).s, 10 ≤ c.k → c.b ≠ ρ b ∧ F b c.b ∧ ∃ (ty : Nat) (rest : List Value), w.heap[c.b]? = some (.cells (c.l.map (Value.int .u64) ++ rest).toArray ty (0, 0)) ∧ c.c = c.l.length + rest.length ∧ c.c ≤ 9223372036854775807) ∧ F b (ρ b) := by
  unfold oldS at h
  split at h
  case h_2 => cases h
  rename_i b' len' cap'
  split at h
  · rename_i ty hg
    split at h
    case h_2 => cases h
    split at h
    case isFalse => cases h
    rename_i hc
    have hc := Nat.eq_of_beq_eq_true hc
    subst hc
    cases h
    have hb := h1 _ _ (hget_mem hg)
    simp only [BlkDen, denL] at hb
    have hs : ((St.new ty kl).g.den ν).s = [] := by simp [St.new, lsX_den hI, ghL]
    refine ⟨rfl, rfl, rfl, rfl, ⟨_, hget_mem hg, fun k l c ty' ha => rfl⟩, 0, rfl, by rw [hs]; simp, [], ?_, by rw [hs]; simp [SI.den], by simp [SI.den], ?_, (by rw [hs]; intro c hc; cases hc), ?_, (hb.2 _).2 rfl⟩
    · rw [hs]; simpa using hb.1
    · rw [hs]; intro i c hc; simp at hc
    · rw [hs]; intro c hc; cases hc
  · rename_i bk hne hg
    split at h
    case h_2 => cases h
    rename_i S' hS
    split at h
    case isFalse => cases h
    rename_i hc
    simp only [Bool.and_eq_true] at hc
    obtain ⟨⟨⟨⟨q1, q2⟩, q3⟩, q4⟩, q5⟩ := hc
    have q1 := Nat.eq_of_beq_eq_true q1
    have q2 := Nat.eq_of_beq_eq_true q2
    have q3 := SL.beq_eq q3
    have q4 := SI.beq_eq q4
    have q5 := SI.beq_eq q5
    cases h
    have hbk := asS_eq hS
    subst hbk
    have hb := h1 _ _ (hget_mem hg)
    simp only [BlkDen, hI, inM] at hb
    have hc0 : (S.full.den ν).c ≠ 0 := by unfold St.full; rw [x78 hI]; show (S.e : Int) + 1 ≠ 0; omega
    have hr := hb.2 hc0
    unfold St.full at hr
    rw [x78 hI] at hr
    obtain ⟨r, hr1⟩ := hr.whole
    obtain ⟨rest, hr2, hr3, hr4⟩ := hr.row
    have hk2 := hr.kinds
    have hsub := hr.sub
    have hft := hr.foot
    simp only at hr1 hr2 hr3 hr4 hk2 hsub hft
    have hrows : (rowsS S).den ν = (r : Int) := by
      unfold rowsS
      simp only [SI.den, hI, inM, St.full]
      rw [x78 hI]
      show (((S.g.den ν).s.length / S.w : Nat) : Int) = r
      rw [hr1, Nat.mul_div_cancel _ (by omega)]
    refine ⟨by rw [q4, q5], q1, q2, q3, ⟨_, hget_mem hg, fun k l c ty ha => by simp [asRow] at ha⟩, r, by rw [q4]; exact hrows, by rw [hr1, q2], rest, ?_, ?_, ?_, ?_, hr.nil, ?_, ?_⟩
    · rw [← q1]; have e1 : ((S.e : Int) + 1 - 1).toNat = S.e := by omega
      rw [e1] at hr2; exact hr2
    · rw [q5, ← q2]; exact hr3
    · rw [q5]; exact hr4
    · intro i c hc
      have := hk2 i c hc
      rw [q3, ksL_den, q2] at this
      rw [List.getD_eq_getElem?_getD, List.getElem?_map] at this
      rw [List.getD_eq_getElem?_getD]
      cases hx : kl[i % kl.length]? with
      | none => rw [hx] at this; simpa using this
      | some a => rw [hx] at this; simpa using this
    · intro c hc h10
      obtain ⟨g1, g2⟩ := hsub c hc h10
      exact ⟨g1, (hft _).2 (.inr ⟨c, hc, h10, rfl⟩), g2⟩
    · exact (hft _).2 (.inl rfl)
  · cases h
theorem SC_val_one (c : SC) : c.val.oneCell' = true := c.val_one
theorem appendS_run (hI : ν.I = inM) (h : HW B ν ρ hp w) {nm t : Nat} {pc : PC} (hd : pcDen ν pc) {s x : SV} {ls : List (PC × Option (SV × Heap))} (ha : appendS P nm pc hp t s x = some ls) (ty : TypeId) :
    ∃ r ∈ ls, ∃ ν' ρ', Agree nm (nm + 1) ν ν' ρ ρ' ∧ pcDen ν r.1 ∧ ∀ y, r.2 = some y → ∃ w', (Builtin.append_ #[t, t] ty #[s.den ν ρ, x.den ν ρ]).run P w = .ok (y.1.den ν' ρ') w' ∧ HW B ν' ρ' y.2 w' := by
  unfold appendS at ha
  split at ha
  case h_2 => cases ha
  rename_i e hut
  split at ha
  case h_2 => cases ha
  rename_i inf z bx cx hinf hz
  split at ha
  case h_2 => cases ha
  rename_i cs tyx ex hgx
  split at ha
  case h_2 => cases ha
  rename_i cl hcl
  split at ha
  case h_2 => cases ha
  rename_i b S len cap hold
  split at ha
  case isFalse => cases ha
  rename_i hc
  simp only [Bool.and_eq_true] at hc
  obtain ⟨⟨⟨⟨⟨⟨q1, q2⟩, q3⟩, q4⟩, q5⟩, q6⟩, q7⟩ := hc
  have q1 := Nat.eq_of_beq_eq_true q1
  have q2 := Nat.eq_of_beq_eq_true q2
  have q3 := Nat.le_of_ble_eq_true q3
  have q4 := Nat.le_of_ble_eq_true q4
  cases ha
  obtain ⟨F, h1, h2, h3⟩ := h.foot
  have hlen := cellVs_length hcl
  have hkl : (cl.map (·.p)).length = cs.length := by simp [hlen]
  obtain ⟨rfl, se, sw, sk, ⟨bk0, hb0, hb1⟩, n, ln, sl, rest, hheap, hcap, hcm, hkin, hnil, hsub, hF0⟩ := oldS_den hI h h1 hold (by omega)
  rw [hkl] at sl hcap sw hkin
  obtain ⟨i, zv, hi, hzv, hzd⟩ := zeroT_info (ν := ν) (ρ := ρ) hz
  have hii : inf = i := Option.some.inj (hinf.symm.trans hi)
  subst hii
  have hzc : zv.cells.size = cs.length := by
    rw [hzd, ← q2]
    have := cells_den (ν := ν) (ρ := ρ) z
    rw [this]
    simp [denL_length]
  obtain ⟨hv1, hv2⟩ := cellVs_ok (ν := ν) (ρ := ρ) hd hcl
  obtain ⟨restx, hrx, _⟩ := h.row (hget_mem hgx)
  obtain ⟨r, hr, hpr, hpc⟩ := ways_den (ν := ν) (cs := [SB.mkLt len (.lit 1073741824)]) (SV.sl nm (.lit 0) (rowsS (newS nm S cl)) (.var nm), hadd nm (SBk.res (newS nm S cl).full) (hp.filter (keepB b cl))) hd
  by_cases hsome : r.2 = none
  · exact ⟨r, hr, ν, ρ, Agree.refl _ _ _ _, hpr, fun y hy => by rw [hsome] at hy; cases hy⟩
  obtain ⟨y0, hy0⟩ := Option.ne_none_iff_exists'.1 hsome
  obtain ⟨rfl, hcs⟩ := hpc y0 hy0
  have c1 := hcs (SB.mkLt len (.lit 1073741824)) (by simp)
  rw [SB.mkLt_den] at c1
  replace c1 : len.den ν < 1073741824 := of_decide_eq_true c1
  have hcapn : ∃ k : Nat, cap.den ν = k := by
    refine ⟨(cap.den ν).toNat, ?_⟩
    rcases Int.lt_or_le (cap.den ν) 0 with hneg | hpos
    · exfalso
      have : cap.den ν * (cs.length : Int) < 0 := Int.mul_neg_of_neg_of_pos hneg (by omega)
      omega
    · omega
  obtain ⟨kc, hkc⟩ := hcapn
  have hcap' : kc * cs.length = ((S.g.den ν).s.map SC.val).length + rest.length := by
    rw [List.length_map]
    have : ((kc * cs.length : Nat) : Int) = (((S.g.den ν).s.length + rest.length : Nat) : Int) := by rw [← hcap, hkc, Int.natCast_mul]
    omega
  obtain ⟨n', cap', rest', w', hrun, hheap', hc', hcm', ho, ht, hu, hsz, hnn, hoth⟩ := st_append (P := P) (ty := ty) hut hi hzv q1 hzc q3 q4 hheap (by simpa using sl) hcap'
    (ad := ⟨ρ bx, 0, none⟩) (c := (cx.den ν).toNat) (news := denL ν ρ cs) (denL_length ..) (fun v hv => by
      rw [hv1] at hv
      obtain ⟨y, _, rfl⟩ := List.mem_map.1 hv
      exact SC_val_one _) (fun j v hj => by
      rw [add_none, cell_at hrx, Nat.zero_add, List.getElem?_append_left (List.getElem?_eq_some_iff.1 hj).1]; exact hj) (len := n) (by omega) (by omega)
  -- what is there behind it
  have hbx : avL nm (nm + 1) cs = true := by
    have := (hav_mem q6 bx _ (hget_mem hgx)).2
    simpa [SBk.av] using this
  have hcav := cellVs_av q6 hcl hbx
  refine ⟨r, hr, envS ν ρ nm cl cap', upd ρ nm n', envS_agree .., hpr, fun y hy => ?_⟩
  rw [hy0] at hy
  cases hy
  have hag := envS_agree ν ρ nm cl (cap' : Int) n'
  have hI' : (envS ν ρ nm cl (cap' : Int)).I = inM := hI
  have hinm : (envS ν ρ nm cl (cap' : Int)).i nm = cap' := by simp [envS]
  have hSg : S.g.den (envS ν ρ nm cl (cap' : Int)) = S.g.den ν := SG.den_agree hag S.g q5
  have hg2 : (addC nm S.g 0 cl).den (envS ν ρ nm cl (cap' : Int)) = { S.g.den ν with s := (S.g.den ν).s ++ cl.map (·.den ν ρ) } := by
    rw [addC_den hI' nm cl S.g 0, hSg, cvD_env cl 0 (fun j => by rw [Nat.zero_add]) hcav]
  have hfull : (newS nm S cl).full.den (envS ν ρ nm cl (cap' : Int)) = { S.g.den ν with s := (S.g.den ν).s ++ cl.map (·.den ν ρ), u := cap', c := (e : Int) + 1, l := (cl.map (·.p)).map Int.ofNat, w := cs.length } := by
    unfold St.full newS
    rw [x78 hI']
    simp only [hg2, se, sw, sk, ksL_den, SI.den, hinm]
  have hln : n = (len.den ν).toNat := by omega
  have hrows : (rowsS (newS nm S cl)).den (envS ν ρ nm cl (cap' : Int)) = ((n + 1 : Nat) : Int) := by
    unfold rowsS
    simp only [SI.den, hI', inM, hfull]
    show ((((S.g.den ν).s ++ cl.map (·.den ν ρ)).length / cs.length : Nat) : Int) = _
    have : ((S.g.den ν).s ++ cl.map (·.den ν ρ)).length = (n + 1) * cs.length := by
      rw [List.length_append, List.length_map, hlen, sl, Nat.add_mul, Nat.one_mul]
    rw [this, Nat.mul_div_cancel _ (by omega)]
  have hnm' : upd ρ nm n' nm = n' := by simp [upd]
  refine ⟨w', ?_, ?_⟩
  · simp only [SV.den, SI.den, hrows, hinm, hnm', Int.toNat_natCast, ln, hkc]
    simpa [SI.den] using hrun
  · -- which block is whose
    have hblk : ∀ y ∈ cl, 10 ≤ y.k → ∃ bk ty', (y.b, bk) ∈ hp ∧ asRow P bk = some (.u64, y.l, y.c, ty') ∧ F y.b (ρ y.b) ∧ keepB b cl (y.b, bk) = false := fun y hy h10 => by
      obtain ⟨v, _, hcv⟩ := hv2 y hy
      obtain ⟨e10, bk, ty', hm, har⟩ := hcv.blk h10
      refine ⟨bk, ty', hm, har, (BlkDen.single (asRow_nores har) (h1 _ _ hm) _).2 rfl, ?_⟩
      simp only [keepB, Bool.and_eq_false_iff, Bool.not_eq_false']
      right
      refine List.any_eq_true.2 ⟨y.b, List.mem_filterMap.2 ⟨y, hy, by simp [e10]⟩, Nat.beq_refl _⟩
    have hkb : keepB b cl (b, bk0) = false := by simp [keepB]
    refine h.regroup h1 h2 h3 (keep := keepB b cl) hag q6 ho ht hu hsz (F' := fun k => k = n' ∨ ∃ c ∈ (S.g.den ν).s ++ cl.map (·.den ν ρ), 10 ≤ c.k ∧ k = c.b) ?_ (fun k hk => ?_) (fun j hj hno => ?_)
    · simp only [BlkDen, hI', inM, hnm']
      refine ⟨fun h0 => absurd h0 (by rw [hfull]; show (e : Int) + 1 ≠ 0; omega), fun _ => ?_⟩
      rw [hfull]
      have old_ne : ∀ c ∈ (S.g.den ν).s, 10 ≤ c.k → c.b < w.heap.size ∧ c.b ≠ ρ b := fun c hc h10 => by
        obtain ⟨g1, g2, ty', rs, g3, _⟩ := hsub c hc h10
        exact ⟨(Array.getElem?_eq_some_iff.1 g3).1, g1⟩
      have new_row : ∀ y ∈ cl, 10 ≤ y.k → ρ y.b < w.heap.size ∧ ρ y.b ≠ ρ b ∧ ∃ (ty' : Nat) (rs : List Value), w.heap[ρ y.b]? = some (.cells ((y.l.den ν).map (Value.int .u64) ++ rs).toArray ty' (0, 0)) ∧ (y.c.den ν).toNat = (y.l.den ν).length + rs.length ∧ (y.c.den ν).toNat ≤ 9223372036854775807 := fun y hy h10 => by
        obtain ⟨bk, ty', hm, har, hF, _⟩ := hblk y hy h10
        obtain ⟨rs, g1, g2, g3⟩ := asRow_den h hm har
        refine ⟨(Array.getElem?_eq_some_iff.1 g1).1, fun hE => ?_, ty', rs, g1, by omega, by omega⟩
        rw [hE] at hF
        have := h3 _ _ _ _ _ hm hb0 hF hF0
        rw [this] at hm
        have e2 := hget_unique h.nd hm hb0
        subst e2
        have := hb1 _ _ _ _ har
        subst this
        unfold asRow at har
        unfold isSt at q7
        simp only at har
        split at har
        · rename_i kk hkk
          rw [hkk] at q7
          cases q7
        · cases har
      have stay : ∀ k, k < w.heap.size → k ≠ ρ b → w'.heap[k]? = w.heap[k]? := hoth
      refine { wpos := q3, whole := ⟨n + 1, by simp only [List.length_append, List.length_map, hlen, sl, Nat.add_mul, Nat.one_mul]⟩, row := ⟨rest', ?_, ?_, by show (cap' : Int) ≤ _; omega⟩, kinds := ?_, nil := ?_, sub := ?_, foot := fun k => Iff.rfl }
      · have e1 : ((e : Int) + 1 - 1).toNat = e := by omega
        simp only [e1, List.map_append, List.map_map]
        rw [hv1] at hheap'
        exact hheap'
      · simp only [List.length_append, List.length_map, hlen]
        have h7 := hc'
        rw [List.length_map] at h7
        have h8 : ((cap' * cs.length : Nat) : Int) = (((S.g.den ν).s.length + cs.length + rest'.length : Nat) : Int) := by rw [h7]
        rw [Int.natCast_mul] at h8
        exact h8
      · intro j c hj
        simp only at hj ⊢
        rw [List.getElem?_append] at hj
        split at hj
        · have := hkin j c hj
          rw [List.getD_eq_getElem?_getD] at this
          rw [List.getD_eq_getElem?_getD, List.getElem?_map]
          cases hx : (cl.map (·.p))[j % cs.length]? with
          | none => rw [hx] at this; simpa using this
          | some a => rw [hx] at this; simpa using this
        · rename_i hge
          rw [sl] at hj hge
          rw [List.getElem?_map] at hj
          simp only [Option.map_eq_some_iff] at hj
          obtain ⟨y, hy, rfl⟩ := hj
          have hlt := (List.getElem?_eq_some_iff.1 hy).1
          have hmod : j % cs.length = j - n * cs.length := by
            have e1 : j = (j - n * cs.length) + n * cs.length := by omega
            rw [e1, Nat.add_mul_mod_self_right, Nat.add_sub_cancel, Nat.mod_eq_of_lt (by omega)]
          obtain ⟨v, _, hcv⟩ := hv2 y (List.mem_of_getElem? hy)
          rw [hmod, List.getD_eq_getElem?_getD, List.getElem?_map, List.getElem?_map, hy]
          exact hcv.kind
      · intro c hc h9
        simp only at hc
        rcases List.mem_append.1 hc with hc | hc
        · exact hnil c hc h9
        · obtain ⟨y, hy, rfl⟩ := List.mem_map.1 hc
          obtain ⟨v, _, hcv⟩ := hv2 y hy
          show y.l.den ν = []
          rw [hcv.nil h9]; rfl
      · intro c hc h10
        simp only at hc
        rcases List.mem_append.1 hc with hc | hc
        · obtain ⟨g1, g2⟩ := old_ne c hc h10
          obtain ⟨_, _, ty', rs, g3, g4, g5⟩ := hsub c hc h10
          refine ⟨?_, ty', rs, by rw [stay _ g1 g2]; exact g3, g4, g5⟩
          rcases hnn with rfl | rfl
          · exact g2
          · omega
        · obtain ⟨y, hy, rfl⟩ := List.mem_map.1 hc
          obtain ⟨g1, g2, ty', rs, g3, g4, g5⟩ := new_row y hy h10
          refine ⟨?_, ty', rs, by show w'.heap[ρ y.b]? = _; rw [stay _ g1 g2]; exact g3, g4, g5⟩
          show ρ y.b ≠ n'
          rcases hnn with rfl | rfl
          · exact g2
          · omega
    · rcases hk with rfl | ⟨c, hc, h10, rfl⟩
      · rcases hnn with rfl | rfl
        · exact .inr ⟨b, bk0, hb0, hkb, hF0⟩
        · exact .inl (Nat.le_refl _)
      · right
        rcases List.mem_append.1 hc with hc | hc
        · exact ⟨b, bk0, hb0, hkb, (hsub c hc h10).2.1⟩
        · obtain ⟨y, hy, rfl⟩ := List.mem_map.1 hc
          obtain ⟨bk, ty', hm, _, hF, hk⟩ := hblk y hy h10
          exact ⟨y.b, bk, hm, hk, hF⟩
    · exact hoth j hj fun e => hno b bk0 hb0 hkb (e ▸ hF0)
end
end Go.Sy
end

section
namespace Go.Sy
open Go Go.RowKit

/-- Which struct, where it begins, which cell of it. -/
def splitO (w : Nat) : SI → Option (SI × SI × Nat)
  | .mul i (.lit (.ofNat w')) => if Nat.beq w w' then some (i, .mul i (.lit (.ofNat w')), 0) else none
  | .add (.mul i (.lit (.ofNat w'))) (.lit (.ofNat j)) => if Nat.beq w w' then some (i, .mul i (.lit (.ofNat w')), j) else none
  | .lit (.ofNat n) => some (.lit (.ofNat (n / w)), .lit (.ofNat (n / w * w)), n % w)
  | _ => none
def addO : SI → Nat → SI
  | .lit (.ofNat n), j => .lit (.ofNat (n + j))
  | off, j => .add off (.lit (.ofNat j))
/-- the cells that were appended to nothing, one by one -/
def chainS : SG → Option (List (SI × SI × SL))
  | .app f g _ a b _ _ l => if Nat.beq f 73 then (match chainS g with
      | some xs => some (xs ++ [(a, b, l)])
      | none => none)
    else if Nat.beq f 1 then (match l with
      | .nil => some []
      | _ => none) else none
  | _ => none
def cellC (X : SG) (off : SI) (j : Nat) : Option (SI × SI × SL) := match off with
  | .lit (.ofNat n) => match chainS X with
    | some xs => xs[n + j]?
    | none => none
  | _ => none
def rdI (X : SG) (off : SI) (j : Nat) : SI := match cellC X off j with
  | some x => x.2.1
  | none => .gi 15 X off (.lit (.ofNat j))
def rdB (X : SG) (off : SI) (j : Nat) : SB := match cellC X off j with
  | some (_, .lit (.ofNat 0), _) => .lit false
  | some (_, .lit (.ofNat (_ + 1)), _) => .lit true
  | _ => .gb 0 (.app 70 X X off (.lit (.ofNat j)) (.lit 0) (.lit 0) .nil) (.lit 0) (.lit 0)
def rdL (X : SG) (off : SI) (j : Nat) : SL := match cellC X off j with
  | some x => x.2.2
  | none => .gl 0 (.app 70 X X off (.lit (.ofNat j)) (.lit 0) (.lit 0) .nil) (.lit 0) (.lit 0)
def cellG (X : SG) (off : SI) (j k : Nat) : Option SV :=
  if Nat.ble (k + 1) 8 then some (.int (kOf k) (rdI X off j))
  else if Nat.beq k 8 then some (.bool (rdB X off j))
  else if Nat.beq k 10 then some (.gv 0 X (addO off j)) else none
def cellsG (X : SG) (off : SI) : Nat → List Nat → Option (List SV)
  | _, [] => some []
  | j, k :: r => match cellG X off j k, cellsG X off (j + 1) r with
    | some v, some l => some (v :: l)
    | _, _ => none
/-- how many rows: a number, where they were appended to nothing -/
def rowsN (S : St) : SI := match chainS S.g with
  | some xs => .lit (.ofNat (xs.length / S.w))
  | none => rowsS S
def opLoadSt (P : Program) (_ : Nat) (fr : List SV) (pc : PC) (hp : Heap) (o : Oper) : Option (List (PC × ORes)) :=
  match o.op with
  | .load t x => match evalO fr x with
    | some (.ptr b off) => match hget b hp with
      | some bk => match asS bk with
        | some S => match ksOf S.ks, splitO S.w off with
          | some kl, some (i, base, j) => if Nat.beq kl.length S.w then match aggT P t, sizeT P t with
            | some true, some n => if Nat.ble (j + n) S.w then (cellsG S.g base j ((kl.drop j).take n)).map fun cs => outsV hp (ways (need pc [SB.mkLe (.lit 0) i, SB.mkLt i (SI.mkNat (rowsN S))]) (.agg cs)) else none
            | some false, some _ => match kl[j]? with
              | some k => (cellG S.g base j k).map fun v => outsV hp (ways (need pc [SB.mkLe (.lit 0) i, SB.mkLt i (SI.mkNat (rowsN S))]) v)
              | none => none
            | _, _ => none
            else none
          | _, _ => none
        | none => none
      | none => none
    | _ => none
  | _ => none

section
variable {P : Program} {ν : Env Gh} {ρ : Nat → Nat} {B : Base} {hp : Heap} {w : World}
theorem st_mem (hI : ν.I = inM) (hw : HW B ν ρ hp w) {b : Nat} {bk : SBk} {S : St} (hg : hget b hp = some bk) (hS : asS bk = some S) : ∃ F, srep { S.g.den ν with u := S.cap.den ν, c := (S.e : Int) + 1, l := S.ks.den ν, w := S.w } w (ρ b) F := by
  obtain ⟨F, h1, _, _⟩ := hw.foot
  have hbk := asS_eq hS
  subst hbk
  have hb := h1 _ _ (hget_mem hg)
  simp only [BlkDen, hI, inM] at hb
  have hc0 : (S.full.den ν).c ≠ 0 := by unfold St.full; rw [x78 hI]; show (S.e : Int) + 1 ≠ 0; omega
  have hr := hb.2 hc0
  unfold St.full at hr
  rw [x78 hI] at hr
  exact ⟨_, hr⟩
theorem st_cell (hI : ν.I = inM) (hw : HW B ν ρ hp w) {b : Nat} {bk : SBk} {S : St} (hg : hget b hp = some bk) (hS : asS bk = some S) {kl : List Nat} (hk : ksOf S.ks = some kl) {i : Int} (h0 : 0 ≤ i) (hi : i < (SI.mkNat (rowsS S)).den ν) {j : Nat} (hj : j < S.w) :
    ∃ c, (S.g.den ν).s[i.toNat * S.w + j]? = some c ∧ w.cell? ⟨ρ b, i.toNat * S.w + j, none⟩ = some c.val ∧ kOK ((kl.getD j 0 : Nat) : Int) c.k := by
  obtain ⟨F, hr⟩ := st_mem hI hw hg hS
  obtain ⟨r, hr1⟩ := hr.whole
  obtain ⟨rest, hr2, hr3, hr4⟩ := hr.row
  have hk2 := hr.kinds
  have hwp := hr.wpos
  simp only at hr1 hr2 hk2 hwp
  have hrows : (rowsS S).den ν = (r : Int) := by
    unfold rowsS
    simp only [SI.den, hI, inM, St.full]
    rw [x78 hI]
    show (((S.g.den ν).s.length / S.w : Nat) : Int) = r
    rw [hr1, Nat.mul_div_cancel _ (by omega)]
  rw [SI.mkNat_den, hrows] at hi
  have hlt : i.toNat < r := by omega
  have h1 : (i.toNat + 1) * S.w ≤ r * S.w := Nat.mul_le_mul_right _ hlt
  rw [Nat.add_mul, Nat.one_mul] at h1
  have hin : i.toNat * S.w + j < (S.g.den ν).s.length := by omega
  refine ⟨_, List.getElem?_eq_getElem hin, ?_, ?_⟩
  · rw [cell_at hr2, List.getElem?_append_left (by simpa using hin), List.getElem?_map, List.getElem?_eq_getElem hin]
    rfl
  · have := hk2 _ _ (List.getElem?_eq_getElem hin)
    have hm : (i.toNat * S.w + j) % S.w = j := by rw [Nat.add_comm, Nat.add_mul_mod_self_right, Nat.mod_eq_of_lt hj]
    rw [hm, ksOf_den hk, List.getD_eq_getElem?_getD, List.getElem?_map] at this
    rw [List.getD_eq_getElem?_getD]
    cases hx : kl[j]? with
    | none => rw [hx] at this; simpa using this
    | some a => rw [hx] at this; simpa using this
theorem splitO_den {w' : Nat} {off i base : SI} {j : Nat} (h : splitO w' off = some (i, base, j)) (hw' : 1 ≤ w') (h0 : 0 ≤ i.den ν) : base.den ν = i.den ν * w' ∧ (off.den ν).toNat = (i.den ν).toNat * w' + j ∧ (base.den ν).toNat = (i.den ν).toNat * w' := by
  have key : (i.den ν * (w' : Int)).toNat = (i.den ν).toNat * w' := by
    obtain ⟨n, hn⟩ : ∃ n : Nat, i.den ν = n := ⟨(i.den ν).toNat, by omega⟩
    rw [hn]
    have : ((n : Int) * (w' : Int)) = ((n * w' : Nat) : Int) := by rw [Int.natCast_mul]
    rw [this, Int.toNat_natCast, Int.toNat_natCast]
  unfold splitO at h
  split at h
  · split at h
    · rename_i hb
      have hb := Nat.eq_of_beq_eq_true hb
      subst hb
      cases h
      simp only [SI.den]
      exact ⟨rfl, key, key⟩
    · cases h
  · split at h
    · rename_i hb
      have hb := Nat.eq_of_beq_eq_true hb
      subst hb
      cases h
      simp only [SI.den]
      refine ⟨rfl, ?_, key⟩
      have : (0 : Int) ≤ i.den ν * (w' : Int) := Int.mul_nonneg h0 (by omega)
      show (i.den ν * (w' : Int) + (j : Int)).toNat = _
      omega
    · cases h
  · rename_i n
    cases h
    simp only [SI.den]
    refine ⟨by show ((n / w' * w' : Nat) : Int) = ((n / w' : Nat) : Int) * (w' : Int); rw [Int.natCast_mul], ?_, by show (((n / w' * w' : Nat) : Int)).toNat = (((n / w' : Nat) : Int)).toNat * w'; rw [Int.toNat_natCast, Int.toNat_natCast]⟩
    show ((n : Nat) : Int).toNat = (((n / w' : Nat) : Int)).toNat * w' + n % w'
    rw [Int.toNat_natCast, Int.toNat_natCast]
    have := Nat.div_add_mod n w'
    rw [Nat.mul_comm] at this
    omega
  · cases h
theorem addO_den (off : SI) (j : Nat) : (addO off j).den ν = off.den ν + (j : Int) := by
  unfold addO
  split
  · simp only [SI.den]; rfl
  · simp only [SI.den]; rfl
theorem chainS_den (hI : ν.I = inM) : ∀ (X : SG) (xs : List (SI × SI × SL)), chainS X = some xs → (X.den ν).s.map SC.nums = xs.map fun x => ((x.1.den ν).toNat, x.2.1.den ν, x.2.2.den ν)
  | .var _, _, h => by simp [chainS] at h
  | .app f g hh a b c d l, xs, h => by
    unfold chainS at h
    split at h
    · rename_i hf
      have hf := Nat.eq_of_beq_eq_true hf
      subst hf
      split at h
      · rename_i ys hy
        cases h
        have ih := chainS_den hI g ys hy
        simp only [SG.den, hI, inM, xga, List.map_append, ih, List.map_cons, List.map_nil, SC.nums]
      · cases h
    · split at h
      · rename_i hf
        have hf := Nat.eq_of_beq_eq_true hf
        subst hf
        split at h
        · cases h
          simp [SG.den, hI, inM, ghL]
        · cases h
      · cases h
theorem cellC_den (hI : ν.I = inM) {X : SG} {off : SI} {j : Nat} {x : SI × SI × SL} (h : cellC X off j = some x) {c : SC} (hc : getC (X.den ν).s (off.den ν + (j : Int)) = c) : c.x = x.2.1.den ν ∧ c.l = x.2.2.den ν := by
  unfold cellC at h
  split at h
  case h_2 => cases h
  rename_i n
  split at h
  case h_2 => cases h
  rename_i xs hx
  have h1 := chainS_den hI X xs hx
  have h2 : ((X.den ν).s.map SC.nums)[n + j]? = (xs.map fun x => ((x.1.den ν).toNat, x.2.1.den ν, x.2.2.den ν))[n + j]? := by rw [h1]
  rw [List.getElem?_map, List.getElem?_map, h, Option.map_some] at h2
  unfold getC at hc
  have e : ((SI.lit (Int.ofNat n)).den ν + (j : Int)).toNat = n + j := by simp only [SI.den]; show ((n : Int) + (j : Int)).toNat = _; omega
  rw [e, List.getD_eq_getElem?_getD] at hc
  cases hs : (X.den ν).s[n + j]? with
  | none => rw [hs] at h2; cases h2
  | some c' =>
    rw [hs] at h2 hc
    simp only [Option.map_some, Option.some.injEq, SC.nums, Prod.mk.injEq] at h2
    rw [Option.getD_some] at hc
    rw [← hc]
    exact ⟨h2.2.1, h2.2.2⟩
theorem rdI_den (hI : ν.I = inM) (X : SG) (off : SI) (j : Nat) : (rdI X off j).den ν = (getC (X.den ν).s (off.den ν + (j : Int))).x := by
  unfold rdI
  split
  · rename_i x hx
    exact (cellC_den hI hx rfl).1.symm
  · simp only [SI.den, hI, inM]
    rfl
theorem rdB_den (hI : ν.I = inM) (X : SG) (off : SI) (j : Nat) : (rdB X off j).den ν = decide (0 < (getC (X.den ν).s (off.den ν + (j : Int))).x) := by
  unfold rdB
  split
  · rename_i hx
    rw [(cellC_den hI hx rfl).1]
    rfl
  · rename_i m _ hx
    rw [(cellC_den hI hx rfl).1]
    simp only [SB.den, SI.den]
    exact (decide_eq_true (show (0 : Int) < Int.ofNat (m + 1) from by show (0 : Int) < ((m + 1 : Nat) : Int); omega)).symm
  · simp only [SB.den, SG.den, SI.den, hI, inM, xga]
    rfl
theorem rdL_den (hI : ν.I = inM) (X : SG) (off : SI) (j : Nat) : (rdL X off j).den ν = (getC (X.den ν).s (off.den ν + (j : Int))).l := by
  unfold rdL
  split
  · rename_i x hx
    exact (cellC_den hI hx rfl).2.symm
  · simp only [SL.den, SG.den, SI.den, hI, inM, xga]
    rfl
theorem cellG_den (hI : ν.I = inM) {X : SG} {off : SI} {j k : Nat} {v : SV} (h : cellG X off j k = some v) (h0 : 0 ≤ off.den ν) {c : SC} (hc : (X.den ν).s[(off.den ν).toNat + j]? = some c) (hk : kOK (k : Int) c.k) : v.den ν ρ = c.val := by
  have hget : getC (X.den ν).s (off.den ν + (j : Int)) = c := by
    unfold getC
    have : (off.den ν + (j : Int)).toNat = (off.den ν).toNat + j := by omega
    rw [this, List.getD_eq_getElem?_getD, hc]; rfl
  unfold cellG at h
  split at h
  · rename_i hb
    have hb := Nat.le_of_ble_eq_true hb
    cases h
    have : c.k = k := by rcases hk with h1 | ⟨h1, _⟩ <;> omega
    simp only [SV.den, SC.val]
    rw [if_pos (by omega), this, rdI_den hI, hget]
  · split at h
    · rename_i hb
      have hb := Nat.eq_of_beq_eq_true hb
      subst hb
      cases h
      have : c.k = 8 := by rcases hk with h1 | ⟨h1, _⟩ <;> omega
      simp only [SV.den, SC.val]
      rw [if_neg (by omega), if_pos this, rdB_den hI, hget]
    · split at h
      · cases h
        simp only [SV.den, hI, inM, addO_den]
        show (getC (X.den ν).s (off.den ν + (j : Int))).val = _
        rw [hget]
      · cases h
theorem cellsG_den (hI : ν.I = inM) {X : SG} {off : SI} (h0 : 0 ≤ off.den ν) : ∀ {ks : List Nat} {j : Nat} {vs : List SV}, cellsG X off j ks = some vs → (∀ (m k : Nat), ks[m]? = some k → ∃ c, (X.den ν).s[(off.den ν).toNat + (j + m)]? = some c ∧ kOK (k : Int) c.k) → ∀ (m : Nat) (v : Value), (denL ν ρ vs)[m]? = some v → ∃ c, (X.den ν).s[(off.den ν).toNat + (j + m)]? = some c ∧ v = c.val
  | [], j, vs, h, _, m, v, hm => by cases h; simp [denL] at hm
  | k :: r, j, vs, h, hc, m, v, hm => by
    unfold cellsG at h
    split at h
    case h_2 => cases h
    rename_i u l hu hl
    cases h
    cases m with
    | zero =>
      simp only [denL, List.getElem?_cons_zero, Option.some.injEq] at hm
      obtain ⟨c, h1, h2⟩ := hc 0 k (by simp)
      exact ⟨c, h1, hm ▸ cellG_den hI hu h0 (by simpa using h1) h2⟩
    | succ m =>
      simp only [denL, List.getElem?_cons_succ] at hm
      obtain ⟨c, h1, h2⟩ := cellsG_den hI h0 hl (fun m' k' hk' => by
        obtain ⟨c, h1, h2⟩ := hc (m' + 1) k' (by simpa using hk')
        exact ⟨c, by rw [show j + 1 + m' = j + (m' + 1) by omega]; exact h1, h2⟩) m v hm
      exact ⟨c, by rw [show j + (m + 1) = j + 1 + m by omega]; exact h1, h2⟩
theorem cellsG_length {X : SG} {off : SI} : ∀ {ks : List Nat} {j : Nat} {vs : List SV}, cellsG X off j ks = some vs → vs.length = ks.length
  | [], _, _, h => by cases h; rfl
  | k :: r, j, vs, h => by
    unfold cellsG at h
    split at h
    case h_2 => cases h
    rename_i u l hu hl
    cases h
    simp [cellsG_length hl]

theorem rowsS_chain (hI : ν.I = inM) {S : St} {xs : List (SI × SI × SL)} (h : chainS S.g = some xs) : (rowsS S).den ν = ((xs.length / S.w : Nat) : Int) := by
  unfold rowsS
  simp only [SI.den, hI, inM, St.full]
  rw [x78 hI]
  show (((S.g.den ν).s.length / S.w : Nat) : Int) = _
  have := congrArg List.length (chainS_den hI S.g xs h)
  rw [List.length_map, List.length_map] at this
  rw [this]
theorem rowsN_den (hI : ν.I = inM) (S : St) : (rowsN S).den ν = (rowsS S).den ν := by
  unfold rowsN
  split
  · rename_i xs hx
    rw [rowsS_chain hI hx]; rfl
  · rfl

theorem opAppS_ok {O : Orac} (oo : OOK P O inM) : OOK P (O.withOp (opAppS P)) inM := by
  refine withOp_ok oo ?_
  intro nm fr pc hp o outs hk B ν ρ a w hI hf hpc hw
  unfold opAppS at hk
  split at hk
  case h_2 => cases hk
  rename_i args argTypes hop
  split at hk
  case h_2 => cases hk
  rename_i s x t u hv ht
  split at hk
  case isFalse => cases hk
  rename_i htu
  have htu := Nat.eq_of_beq_eq_true htu
  subst htu
  simp only [Option.map_eq_some_iff] at hk
  obtain ⟨l, happ, rfl⟩ := hk
  obtain ⟨r, hr, ν', ρ', hag, hd, hrun⟩ := appendS_run hI hw hpc happ o.type
  have hargs := evalL_toArray hf hv
  have ht' : argTypes = #[t, t] := by apply Array.ext'; simpa using ht
  simp only [denL] at hargs
  refine out_VH (by rw [hop]; rfl) hr hag hd (fun y hy => ?_)
  obtain ⟨w', h1, h2⟩ := hrun y hy
  refine ⟨w', ?_, h2⟩
  simp only [execOp, hop, resolve, Sem.run_bind, Sem.run_pure, Result.andThen_ok, invoke, builtin, hargs, ht', h1]
theorem opLoadSt_ok {O : Orac} (oo : OOK P O inM) : OOK P (O.withOp (opLoadSt P)) inM := by
  refine withOp_ok oo ?_
  intro nm fr pc hp o outs hk B ν ρ a w hI hf hpc hw
  unfold opLoadSt at hk
  split at hk
  case h_2 => cases hk
  rename_i t x hop
  split at hk
  case h_2 => cases hk
  rename_i b off hx
  split at hk
  case h_2 => cases hk
  rename_i bk hg
  split at hk
  case h_2 => cases hk
  rename_i S hS
  split at hk
  case h_2 => cases hk
  rename_i kl i base j hkl hsp
  split at hk
  case isFalse => cases hk
  rename_i hl
  have hl := Nat.eq_of_beq_eq_true hl
  have hwp : 1 ≤ S.w := by obtain ⟨F, hr⟩ := st_mem hI hw hg hS; exact hr.wpos
  have facts : ∀ {v : SV} {z : PC × Option SV}, (∀ u, z.2 = some u → u = v ∧ ∀ c ∈ [SB.mkLe (.lit 0) i, SB.mkLt i (SI.mkNat (rowsN S))], c.den ν = true) → ∀ u, z.2 = some u → u = v ∧ 0 ≤ i.den ν ∧ i.den ν < (SI.mkNat (rowsS S)).den ν := fun h u hu => by
    obtain ⟨h1, h2⟩ := h u hu
    have c1 := h2 (SB.mkLe (.lit 0) i) (by simp)
    have c2 := h2 (SB.mkLt i (SI.mkNat (rowsN S))) (by simp)
    rw [SB.mkLe_den] at c1
    rw [SB.mkLt_den, SI.mkNat_den, rowsN_den hI, ← SI.mkNat_den] at c2
    exact ⟨h1, of_decide_eq_true c1, of_decide_eq_true c2⟩
  split at hk
  · rename_i n hag hsz
    split at hk
    case isFalse => cases hk
    rename_i hn
    have hn := Nat.le_of_ble_eq_true hn
    simp only [Option.map_eq_some_iff] at hk
    obtain ⟨cs, hcs, rfl⟩ := hk
    obtain ⟨z, hz, hzd, hzc⟩ := ways_den (ν := ν) (cs := [SB.mkLe (.lit 0) i, SB.mkLt i (SI.mkNat (rowsN S))]) (SV.agg cs) hpc
    refine out_V hw hz hzd fun v hv => ?_
    obtain ⟨rfl, i0, i1⟩ := facts hzc v hv
    obtain ⟨e1, e2, e3⟩ := splitO_den (ν := ν) hsp hwp i0
    have hb0 : 0 ≤ base.den ν := by rw [e1]; exact Int.mul_nonneg i0 (by omega)
    have hlen : (denL ν ρ cs).length = n := by rw [denL_length, cellsG_length hcs, List.length_take, List.length_drop]; omega
    have hcell := cellsG_den (ρ := ρ) hI hb0 hcs (fun m k hm => by
      rw [List.getElem?_take] at hm
      split at hm
      · rename_i hmn
        rw [List.getElem?_drop] at hm
        obtain ⟨c, g1, g2, g3⟩ := st_cell hI hw hg hS hkl i0 i1 (j := j + m) (by omega)
        rw [e3]
        refine ⟨c, g1, ?_⟩
        rw [List.getD_eq_getElem?_getD, hm] at g3
        exact g3
      · cases hm)
    have hc := run_loadCells_list (P := P) w ⟨ρ b, (off.den ν).toNat, none⟩ (denL ν ρ cs) (fun m v hm => by
      obtain ⟨c, g1, rfl⟩ := hcell m v hm
      have hmn : m < n := by rw [← hlen]; exact (List.getElem?_eq_some_iff.1 hm).1
      obtain ⟨c', g1', g2, _⟩ := st_cell hI hw hg hS hkl i0 i1 (j := j + m) (by omega)
      rw [e3] at g1
      rw [g1] at g1'
      cases g1'
      rw [add_none, e2, Nat.add_assoc]
      exact g2)
    rw [hlen] at hc
    have hload : (Instr.loadAt t ((SV.ptr b off).den ν ρ)).run P w = .ok ((SV.agg cs).den ν ρ) w := by
      simp [SV.den, Instr.loadAt, Instr.sureAddr, loadVar, aggT_run hag, sizeT_run hsz, hc]
    simp [execOp, hop, hf.eval hx, hload]
  · rename_i n hag hsz
    split at hk
    case h_2 => cases hk
    rename_i k hkj
    simp only [Option.map_eq_some_iff] at hk
    obtain ⟨u, hu, rfl⟩ := hk
    obtain ⟨z, hz, hzd, hzc⟩ := ways_den (ν := ν) (cs := [SB.mkLe (.lit 0) i, SB.mkLt i (SI.mkNat (rowsN S))]) u hpc
    refine out_V hw hz hzd fun v hv => ?_
    obtain ⟨rfl, i0, i1⟩ := facts hzc v hv
    obtain ⟨e1, e2, e3⟩ := splitO_den (ν := ν) hsp hwp i0
    have hb0 : 0 ≤ base.den ν := by rw [e1]; exact Int.mul_nonneg i0 (by omega)
    have hj : j < S.w := by rw [← hl]; exact (List.getElem?_eq_some_iff.1 hkj).1
    obtain ⟨c, g1, g2, g3⟩ := st_cell hI hw hg hS hkl i0 i1 hj
    rw [List.getD_eq_getElem?_getD, hkj] at g3
    have hval := cellG_den (ρ := ρ) hI hu hb0 (by rw [e3]; exact g1) g3
    rw [← e2] at g2
    have hload : (Instr.loadAt t ((SV.ptr b off).den ν ρ)).run P w = .ok (v.den ν ρ) w := by
      rw [hval]
      simp [SV.den, Instr.loadAt, Instr.sureAddr, loadVar, aggT_run hag, g2]
    simp [execOp, hop, hf.eval hx, hload]
  · cases hk
end
end Go.Sy
end

section
namespace Go.Sy
open Go Go.RowKit

def IntsN (w : World) (v : Value) (xs : List Int) : Prop := Ints w v xs ∨ (v = .slice none 0 0 ∧ xs = [])
def EqN (P : Program) (g : Nat) : Prop := ∀ (w : World) (a b : Value) (xs ys : List Int), IntsN w a xs → IntsN w b ys → Calls P g #[a, b] w fun e w' => e = .returned (.bool (xs == ys)) ∧ Below w.heap.size w w'
/-- the row that a ghost tells -/
def findS (X : SG) : Heap → Option St
  | [] => none
  | (_, bk) :: r => match asS bk with
    | some S => if S.g.beq X then some S else findS X r
    | none => findS X r
def intsN (P : Program) (hp : Heap) : SV → Option (SL × PC)
  | .nilSl => some (.nil, [])
  | .sl q (.lit 0) n _ => match hget q hp with
    | some bk => match asRow P bk with
      | some (k, l, _, _) => if kBeq k .u64 then some (l, if (SI.mkLen l).beq n then [] else [(.eq (.nat n) (.len l), false)]) else none
      | none => none
    | none => none
  | .gv 0 X idx => match findS X hp with
    | some S => match ksOf S.ks, splitO S.w idx with
      | some kl, some (i, base, j) => match kl[j]? with
        | some 10 => if Nat.beq kl.length S.w then some (rdL X base j, [(.lt i (.lit 0), true), (SB.mkLt i (SI.mkNat (rowsN S)), false)]) else none
        | _ => none
      | _, _ => none
    | none => none
  | _ => none
def eqNK (P : Program) (_ : Nat) (args : List SV) (pc : PC) (hp : Heap) : Option (List CLeaf) := match args with
  | [a, b] => match intsN P hp a, intsN P hp b with
    | some (l, bs), some (m, cs) => some (⟨false, .bool (eqX l m), pc, hp⟩ :: (bs ++ cs).map (bad1 pc))
    | _, _ => none
  | _ => none

section
variable {P : Program} {ν : Env Gh} {ρ : Nat → Nat} {B : Base} {hp : Heap} {w : World}
theorem findS_mem {X : SG} {S : St} : ∀ {hp : Heap}, findS X hp = some S → ∃ b bk, (b, bk) ∈ hp ∧ asS bk = some S ∧ S.g = X
  | [], h => by cases h
  | (b, bk) :: r, h => by
    unfold findS at h
    split at h
    · rename_i S' hS
      split at h
      · rename_i hb
        cases h
        exact ⟨b, bk, by simp, hS, SG.beq_eq hb⟩
      · obtain ⟨b', bk', h1, h2⟩ := findS_mem h
        exact ⟨b', bk', by simp [h1], h2⟩
    · obtain ⟨b', bk', h1, h2⟩ := findS_mem h
      exact ⟨b', bk', by simp [h1], h2⟩
theorem intsN_den (hI : ν.I = inM) (hw : HW B ν ρ hp w) {v : SV} {l : SL} {bs : PC} (h : intsN P hp v = some (l, bs)) (hb : ∀ x ∈ bs, x.1.den ν ≠ x.2) : IntsN w (v.den ν ρ) (l.den ν) := by
  unfold intsN at h
  split at h
  · cases h; exact .inr ⟨rfl, rfl⟩
  · rename_i q n c
    split at h
    case h_2 => cases h
    rename_i bk hg
    split at h
    case h_2 => cases h
    rename_i k l' cp ty har
    split at h
    case isFalse => cases h
    rename_i hk
    have hk := kBeq_eq hk
    subst hk
    simp only [Option.some.injEq, Prod.mk.injEq] at h
    obtain ⟨rfl, rfl⟩ := h
    obtain ⟨rest, h1, h2, h3⟩ := asRow_den hw (hget_mem hg) har
    have hlen : (n.den ν).toNat = (l'.den ν).length := by
      cases hl : (SI.mkLen l').beq n with
      | true =>
        have := SI.beq_eq hl
        rw [← this, SI.mkLen_den]; simp
      | false =>
        rw [hl] at hb
        simp only [Bool.false_eq_true, if_false, List.mem_singleton, forall_eq] at hb
        simp only [SB.den, SI.den, ne_eq, beq_eq_false_iff_ne, Decidable.not_not] at hb
        omega
    refine .inl ⟨ρ q, 0, (c.den ν).toNat, by simp [SV.den, SI.den, hlen], Array.getElem?_eq_some_iff.1 h1 |>.1, by omega, fun j x hx => ?_⟩
    rw [cell_at h1]
    have hj : j < (l'.den ν).length := (List.getElem?_eq_some_iff.1 hx).1
    rw [List.getElem?_append_left (by simpa using hj), List.getElem?_map, Nat.zero_add, hx]
    rfl
  · rename_i X idx
    split at h
    case h_2 => cases h
    rename_i S hS
    obtain ⟨b, bk, hm, hbk, rfl⟩ := findS_mem hS
    split at h
    case h_2 => cases h
    rename_i kl i base j hkl hsp
    split at h
    case h_2 => cases h
    rename_i hkj
    split at h
    case isFalse => cases h
    rename_i hl
    have hl := Nat.eq_of_beq_eq_true hl
    cases h
    obtain ⟨F, hr⟩ : ∃ F, srep { S.g.den ν with u := S.cap.den ν, c := (S.e : Int) + 1, l := S.ks.den ν, w := S.w } w (ρ b) F := by
      obtain ⟨F, h1, _, _⟩ := hw.foot
      have hq := asS_eq hbk
      subst hq
      have hb := h1 _ _ hm
      simp only [BlkDen, hI, inM] at hb
      have hc0 : (S.full.den ν).c ≠ 0 := by unfold St.full; rw [x78 hI]; show (S.e : Int) + 1 ≠ 0; omega
      have hr := hb.2 hc0
      unfold St.full at hr
      rw [x78 hI] at hr
      exact ⟨_, hr⟩
    have hwp := hr.wpos
    simp only [List.mem_cons, List.not_mem_nil, or_false, forall_eq_or_imp, forall_eq] at hb
    obtain ⟨b1, b2⟩ := hb
    simp only [SB.den, SI.den] at b1
    rw [SB.mkLt_den, SI.mkNat_den, rowsN_den hI, ← SI.mkNat_den] at b2
    have i0 : 0 ≤ i.den ν := by
      rcases Int.lt_or_le (i.den ν) 0 with h | h
      · exact absurd (decide_eq_true h) b1
      · exact h
    have i1 : i.den ν < (SI.mkNat (rowsS S)).den ν := by
      cases hd : decide (i.den ν < (SI.mkNat (rowsS S)).den ν) with
      | true => exact of_decide_eq_true hd
      | false => exact absurd hd b2
    obtain ⟨r, hr1⟩ := hr.whole
    have hk2 := hr.kinds
    have hsub := hr.sub
    simp only at hr1 hk2 hwp hsub
    have hrows : (rowsS S).den ν = (r : Int) := by
      unfold rowsS
      simp only [SI.den, hI, inM, St.full]
      rw [x78 hI]
      show (((S.g.den ν).s.length / S.w : Nat) : Int) = r
      rw [hr1, Nat.mul_div_cancel _ (by omega)]
    rw [SI.mkNat_den, hrows] at i1
    have hlt : (i.den ν).toNat < r := by omega
    have hj : j < S.w := by rw [← hl]; exact (List.getElem?_eq_some_iff.1 hkj).1
    have h1 : ((i.den ν).toNat + 1) * S.w ≤ r * S.w := Nat.mul_le_mul_right _ hlt
    rw [Nat.add_mul, Nat.one_mul] at h1
    have hin : (i.den ν).toNat * S.w + j < (S.g.den ν).s.length := by omega
    obtain ⟨e1, e2, e3⟩ := splitO_den (ν := ν) hsp hwp i0
    have hb0 : 0 ≤ base.den ν := by rw [e1]; exact Int.mul_nonneg i0 (by omega)
    have hkk := hk2 _ _ (List.getElem?_eq_getElem hin)
    have hmod : ((i.den ν).toNat * S.w + j) % S.w = j := by rw [Nat.add_comm, Nat.add_mul_mod_self_right, Nat.mod_eq_of_lt hj]
    rw [hmod, ksOf_den hkl, List.getD_eq_getElem?_getD, List.getElem?_map, hkj] at hkk
    have hget1 : getC (S.g.den ν).s (idx.den ν) = (S.g.den ν).s[(i.den ν).toNat * S.w + j] := by
      unfold getC
      rw [e2, List.getD_eq_getElem?_getD, List.getElem?_eq_getElem hin]; rfl
    have hget2 : getC (S.g.den ν).s (base.den ν + (j : Int)) = (S.g.den ν).s[(i.den ν).toNat * S.w + j] := by
      unfold getC
      have : (base.den ν + (j : Int)).toNat = (i.den ν).toNat * S.w + j := by omega
      rw [this, List.getD_eq_getElem?_getD, List.getElem?_eq_getElem hin]; rfl
    have ev : (SV.gv 0 S.g idx).den ν ρ = ((S.g.den ν).s[(i.den ν).toNat * S.w + j]).val := by
      simp only [SV.den, hI, inM]
      rw [hget1]
    have el : (rdL S.g base j).den ν = ((S.g.den ν).s[(i.den ν).toNat * S.w + j]).l := by rw [rdL_den hI, hget2]
    rw [ev, el]
    generalize hcd : (S.g.den ν).s[(i.den ν).toNat * S.w + j] = c at *
    have hcm : c ∈ (S.g.den ν).s := hcd ▸ List.getElem_mem hin
    simp only [Option.map_some, Option.getD_some] at hkk
    have hcase : c.k = 10 ∨ c.k = 9 := by
      rcases hkk with h | ⟨_, h⟩
      · left; have : (c.k : Int) = 10 := h; omega
      · exact .inr h
    rcases hcase with h10 | h9
    · obtain ⟨g1, ty', rs, g2, g3, g4⟩ := hsub c hcm (by omega)
      refine .inl ⟨c.b, 0, c.c, by simp [SC.val, h10], (Array.getElem?_eq_some_iff.1 g2).1, by omega, fun m x hx => ?_⟩
      rw [cell_at g2]
      have hm : m < c.l.length := (List.getElem?_eq_some_iff.1 hx).1
      rw [List.getElem?_append_left (by simpa using hm), List.getElem?_map, Nat.zero_add, hx]
      rfl
    · exact .inr ⟨by simp [SC.val, h9], hr.nil c hcm h9⟩
  · cases h
theorem eqN_ok {O : Orac} (oo : OOK P O inM) {g : Nat} (hc : EqN P g) : OOK P (O.withCall g (eqNK P)) inM := by
  refine withCall_ok oo ?_
  intro lo args pc hp cs h sz hsz B ν ρ w R hI hpc hw hl
  unfold eqNK at h
  split at h
  · rename_i a b
    split at h
    · rename_i l bs m bs' h1 h2
      cases h
      have hb := bads_ok (bs := bs ++ bs') hpc hl (fun x hx => by simp only [List.mem_cons, List.mem_map]; exact .inr ⟨x, hx, rfl⟩)
      have i1 := intsN_den hI hw h1 (fun x hx => hb x (by simp [hx]))
      have i2 := intsN_den hI hw h2 (fun x hx => hb x (by simp [hx]))
      refine pure_call' (v := .bool (eqX l m)) hpc hw hl (List.mem_cons_self ..) ?_
      have := hc w _ _ _ _ i1 i2
      simp only [SV.den, eqX_den hI]
      exact this
    · cases h
  · cases h
end
end Go.Sy
end
