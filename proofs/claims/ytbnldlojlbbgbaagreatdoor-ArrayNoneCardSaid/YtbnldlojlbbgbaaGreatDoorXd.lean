/- Operations on maps; copy; strings and bytes. -/
import Derived.Test.YtbnldlojlbbgbaaGreatDoorXc
import Derived.Laws.IdiomStrings
import Derived.Maps.RangeRun
import GoSem.Step
set_option linter.unusedVariables false
set_option linter.unusedSimpArgs false

namespace Go.X
noncomputable section
set_option linter.unusedVariables false
set_option linter.unusedSimpArgs false
open Go.MapKept

def aMkMap (P : Program) (t : TypeId) : Option AObj :=
  match P.underlying t with
  | some (.map kt _) => match kdOf P kt with
    | some kd => some (.map kd [] (some 0))
    | none => none
  | _ => none

def getMap (s : St) (kd : KK) (b : Nat) : Option (List Ent × Option Nat) :=
  match s.at b with
  | some (.map kd' l clk) => if kd' = kd then some (l, clk) else none
  | _ => none

/-- The map's key kind, of a key that fits. -/
def keyKind (P : Program) (t : TypeId) (k : AV) : Option (KK × TypeId) :=
  match P.underlying t with
  | some (.map kt et) => match kdOf P kt with
    | some kd => if isKeyA kd k = true then some (kd, et) else none
    | none => none
  | _ => none

def okTup (ok b : Bool) (v : AV) : AV := match ok with | true => .tup [v, .bool b] | false => v

def aLookup (P : Program) (t : TypeId) (s : St) (x k : AV) (ok : Bool) : Option AV :=
  match keyKind P t k with
  | some (kd, et) => match x with
    | .nilMap => match aZero P et with
      | some z => some (okTup ok false z)
      | none => none
    | .map b => match getMap s kd b with
      | some (l, _) => match findA k l with
        | some (v, _) => some (okTup ok true v)
        | none => match aZero P et with
          | some z => some (okTup ok false z)
          | none => none
      | none => none
    | _ => none
  | none => none

def aMapUpdate (P : Program) (t : TypeId) (s : St) (x k v : AV) : Option St :=
  match keyKind P t k with
  | some (kd, _) => match x with
    | .map b => match getMap s kd b with
      | some (l, clk) => match findA k l with
        | some _ => some (s.setU b kd k v l clk)
        | none => some (s.setH b kd k v clk l (clk.map (· + 1)))
      | none => none
    | _ => none
  | none => none

def aMapEntry (P : Program) (t : TypeId) (s : St) (x k : AV) : Option (AV × St) :=
  match keyKind P t k with
  | some (kd, et) => match x with
    | .map b => match getMap s kd b with
      | some (l, clk) => match findA k l with
        | some (v, some n) => some (.tup [v, .int .i64 (.ofNat n)], s)
        | some (_, none) => none
        | none => match clk with
          | some c => match aZero P et with
            | some z => some (.tup [z, .int .i64 (.ofNat c)], s.setH b kd k z (some c) l (some (c + 1)))
            | none => none
          | none => none
      | none => none
    | _ => none
  | none => none

def aEntryStore (s : St) (x st v : AV) : Option St :=
  match x with
  | .map b => match s.at b with
    | some (.map kd l clk) => match st with
      | .int _ (.ofNat n) => if (l.all (fun x => x.2.2.isSome) && l.any (bornIs n)) = true then some (s.set b (.map kd (setA n v l) clk)) else none
      | _ => none
    | _ => none
  | _ => none

def aDelete (P : Program) (t : TypeId) (s : St) (x k : AV) : Option St :=
  match keyKind P t k with
  | some (kd, _) => match x with
    | .nilMap => some s
    | .map b => match getMap s kd b with
      | some (l, clk) => match findA k l with
        | some _ => some (s.set b (.map kd (delA k l) clk))
        | none => some s
      | none => none
    | _ => none
  | none => none

/-- A slice of pointers (no more) is cleared. -/
def aClearSl (P : Program) (t : TypeId) (s : St) (b o n : Nat) : Option St :=
  match P.underlying t with
  | some (.slice e) => match aZero P e with
    | some .nilPtr => match s.at b with
      | some obj => match writeFrag obj o (.c (List.replicate n .nilPtr)) with
        | some obj' => some (s.set b obj')
        | none => none
      | none => none
    | _ => none
  | _ => none
def aClear (P : Program) (t : TypeId) (s : St) (x : AV) : Option St :=
  match P.underlying t with
  | some _ => match x with
    | .nilMap => some s
    | .map b => match s.at b with
      | some (.map kd l clk) => some (s.set b (.map kd [] clk))
      | _ => none
    | .nilSlice => some s
    | .slice b o n _ => match Nat.beq n 0 with
      | true => some s
      | false => aClearSl P t s b o n
    | _ => none
  | none => none

def aMapLen (P : Program) (t : TypeId) (s : St) (x : AV) : Option AV :=
  match P.underlying t with
  | some (.map _ _) => match x with
    | .map b => match s.at b with
      | some (.map _ l _) => some (.int .i64 (.ofNat l.length))
      | _ => none
    | _ => none
  | _ => none

section
variable {P : Program} {w w0 : World} {r : Ren} {s : St}

theorem keyKind_ok {t : TypeId} {k : AV} {kd : KK} {et : TypeId} (h : keyKind P t k = some (kd, et)) {u : Value} (hu : VRel r k u) :
    ∃ kt, P.underlying t = some (.map kt et) ∧ P.underlying kt = some kd.desc ∧ IsKey kd.desc u := by
  unfold keyKind at h
  split at h
  · rename_i kt et' hD
    split at h
    · rename_i kd' hk
      split at h <;> cases h
      rename_i hka
      refine ⟨kt, hD, ?_, isKeyA_ok hka hu⟩
      unfold kdOf at hk
      split at hk <;> cases hk <;> assumption
    · cases h
  · cases h

theorem getMap_ok {kd : KK} {b : Nat} {l : List Ent} {clk : Option Nat} (h : getMap s kd b = some (l, clk)) : s.at b = some (.map kd l clk) := by
  unfold getMap at h
  split at h
  · rename_i kd' l' clk' hb
    split at h <;> cases h
    rename_i he; subst he; exact hb
  · cases h

theorem okTup_rel {ok b : Bool} {v : AV} {z : Value} (h : VRel r v z) : VRel r (okTup ok b v) (if ok = true then .tuple #[z, .bool b] else z) := by
  cases ok with
  | false => exact h
  | true =>
    simp only [okTup, VRel, if_true]
    exact ⟨[z, .bool b], rfl, .cons h (.cons (by simp only [VRel]) .nil)⟩

theorem map_at (hw : WRel w0 r s w) {kd : KK} {b : Nat} {l : List Ent} {clk : Option Nat} (hb : s.at b = some (.map kd l clk)) {p : Place} (hp : r b = some p) :
    ∃ es clock, w.heap[p.blk]? = some (.map es clock) ∧ p.shift = 0 ∧ p.more = 0 ∧ MapRel r kd l clk es clock := (hw.own b _ p hb hp).2

theorem setObj_wrote {g : Nat} {x y : Obj} (h : w.heap[g]? = some x) : Wrote w { w with heap := w.heap.setIfInBounds g y } g y := by
  have hg := (Array.getElem?_eq_some_iff.1 h).1
  refine ⟨fun k hk => ?_, by simp, rfl, rfl, rfl, ?_⟩
  · simp [Array.getElem?_setIfInBounds_ne (Ne.symm hk)]
  · simp [hg]

/-- A map written. -/
theorem map_write (hw : WRel w0 r s w) {kd : KK} {b : Nat} {l l' : List Ent} {clk clk' : Option Nat} (hb : s.at b = some (.map kd l clk)) {p : Place} (hp : r b = some p) {es es' : Array MapEntry} {clock clock' : Nat}
    (hx : w.heap[p.blk]? = some (.map es clock)) (h1 : p.shift = 0) (h2 : p.more = 0) (hm : MapRel r kd l' clk' es' clock') :
    WRel w0 r (s.set b (.map kd l' clk')) { w with heap := w.heap.setIfInBounds p.blk (.map es' clock') } :=
  hw.wrote hb hp (setObj_wrote hx) ⟨es', clock', rfl, h1, h2, hm⟩

theorem aLookup_ok (hw : WRel w0 r s w) {t : TypeId} {x k a : AV} {ok : Bool} (h : aLookup P t s x k ok = some a) {u v : Value} (hu : VRel r x u) (hv : VRel r k v) :
    ∃ z, (Instr.lookup t u v ok).run P w = .ok z w ∧ VRel r a z := by
  unfold aLookup at h
  split at h
  · rename_i kd et hkk
    obtain ⟨kt, hD, hkt, hkey⟩ := keyKind_ok hkk hv
    split at h
    · simp only [VRel] at hu; subst hu
      split at h
      · rename_i z hz
        cases h
        obtain ⟨zv, g1, g2⟩ := aZero_ok hz
        refine ⟨_, ?_, okTup_rel (g2 r)⟩
        cases ok <;> simp [Instr.lookup, run_underlying hD, MapKept.run_checkKey hkt hkey, Instr.findKey, run_underlying hkt, Instr.findNow, g1]
      · cases h
    · rename_i b
      simp only [VRel] at hu; obtain ⟨p, hp, rfl⟩ := hu
      split at h
      · rename_i l clk hl
        obtain ⟨es, clock, hx, h1, h2, hm⟩ := map_at hw (getMap_ok hl) hp
        split at h
        · rename_i q bo hf
          cases h
          rcases hm.find hv hkey with ⟨e1, _⟩ | ⟨q', bo', j, e, e1, e2, e3, e4, e5, e6⟩
          · rw [hf] at e1; cases e1
          · rw [hf] at e1; cases e1
            refine ⟨_, ?_, okTup_rel e5⟩
            cases ok <;> simp [Instr.lookup, run_underlying hD, MapKept.run_getObj_map hx, MapKept.run_checkKey hkt hkey, MapKept.run_findKey hkt e2]
        · rename_i hf
          split at h
          · rename_i z hz
            cases h
            obtain ⟨zv, g1, g2⟩ := aZero_ok hz
            rcases hm.find hv hkey with ⟨_, e2, _⟩ | ⟨q', bo', j, e, e1, _⟩
            · refine ⟨_, ?_, okTup_rel (g2 r)⟩
              cases ok <;> simp [Instr.lookup, run_underlying hD, MapKept.run_getObj_map hx, MapKept.run_checkKey hkt hkey, MapKept.run_findKey hkt e2, g1]
            · rw [hf] at e1; cases e1
          · cases h
      · cases h
    · cases h
  · cases h

theorem aMapUpdate_ok (hw : WRel w0 r s w) {t : TypeId} {x k q : AV} {s' : St} (h : aMapUpdate P t s x k q = some s') {u v z : Value} (hu : VRel r x u) (hv : VRel r k v) (hz : VRel r q z) :
    ∃ w', (Instr.mapUpdate t u v z).run P w = .ok () w' ∧ WRel w0 r s' w' := by
  unfold aMapUpdate at h
  simp only [St.setH_eq, St.setU_eq] at h
  split at h
  · rename_i kd et hkk
    obtain ⟨kt, hD, hkt, hkey⟩ := keyKind_ok hkk hv
    split at h
    · rename_i b
      simp only [VRel] at hu; obtain ⟨p, hp, rfl⟩ := hu
      split at h
      · rename_i l clk hl
        obtain ⟨es, clock, hx, h1, h2, hm⟩ := map_at hw (getMap_ok hl) hp
        split at h
        · rename_i f hf
          cases h
          rcases hm.find hv hkey with ⟨e1, _⟩ | ⟨q', bo', j, e, e1, e2, e3, e4, e5, e6⟩
          · rw [hf] at e1; cases e1
          · have hm' := hm.upd hv hkey hz e3 e4
            refine ⟨_, ?_, map_write hw (getMap_ok hl) hp hx h1 h2 hm'⟩
            have e3' : es[j]? = some e := by rw [← Array.getElem?_toList]; exact e3
            simp [Instr.mapUpdate, run_underlying hD, MapKept.run_getObj_map hx, MapKept.run_checkKey hkt hkey, MapKept.run_findKey hkt e2, e3', e4, MapKept.run_keyThatStays hkey, MapKept.run_setObj_map _ hx]
        · rename_i hf
          cases h
          rcases hm.find hv hkey with ⟨_, e2, e3⟩ | ⟨q', bo', j, e, e1, _⟩
          · have hm' := hm.push hv hkey hz e3
            refine ⟨_, ?_, map_write hw (getMap_ok hl) hp hx h1 h2 hm'⟩
            simp [Instr.mapUpdate, run_underlying hD, MapKept.run_getObj_map hx, MapKept.run_checkKey hkt hkey, MapKept.run_findKey hkt e2, MapKept.run_setObj_map _ hx]
          · rw [hf] at e1; cases e1
      · cases h
    · cases h
  · cases h

theorem tup2 {a b : AV} {u v : Value} (h1 : VRel r a u) (h2 : VRel r b v) : VRel r (.tup [a, b]) (.tuple #[u, v]) := by
  simp only [VRel]; exact ⟨[u, v], rfl, .cons h1 (.cons h2 .nil)⟩

theorem aMapEntry_ok (hw : WRel w0 r s w) {t : TypeId} {x k a : AV} {s' : St} (h : aMapEntry P t s x k = some (a, s')) {u v : Value} (hu : VRel r x u) (hv : VRel r k v) :
    ∃ w' z, (Instr.mapEntry t u v).run P w = .ok z w' ∧ VRel r a z ∧ WRel w0 r s' w' := by
  unfold aMapEntry at h
  simp only [St.setH_eq] at h
  split at h
  · rename_i kd et hkk
    obtain ⟨kt, hD, hkt, hkey⟩ := keyKind_ok hkk hv
    split at h
    · rename_i b
      simp only [VRel] at hu; obtain ⟨p, hp, rfl⟩ := hu
      split at h
      · rename_i l clk hl
        obtain ⟨es, clock, hx, h1, h2, hm⟩ := map_at hw (getMap_ok hl) hp
        split at h
        · rename_i q n hf
          cases h
          rcases hm.find hv hkey with ⟨e1, _⟩ | ⟨q', bo', j, e, e1, e2, e3, e4, e5, e6⟩
          · rw [hf] at e1; cases e1
          · rw [hf] at e1; cases e1
            have hborn := e6 n rfl
            have e3' : es[j]? = some e := by rw [← Array.getElem?_toList]; exact e3
            have hmod : es.modify j (fun e => { e with key := v }) = es := by
              apply Array.ext_getElem?
              intro i
              rw [Array.getElem?_modify]
              split
              · rename_i hij; subst hij; rw [e3']; simp [← e4]
              · rfl
            have hm' : WRel w0 r s { w with heap := w.heap.setIfInBounds p.blk (.map es clock) } := by
              have he : w.heap.setIfInBounds p.blk (.map es clock) = w.heap := by
                apply Array.ext_getElem?
                intro i
                by_cases hi : p.blk = i
                · subst hi
                  rw [hx, Array.getElem?_setIfInBounds_self_of_lt (Array.getElem?_eq_some_iff.1 hx).1]
                · rw [Array.getElem?_setIfInBounds_ne hi]
              rw [he]; exact hw
            refine ⟨_, .tuple #[e.val, goInt e.born], ?_, tup2 e5 (by simp only [VRel, goInt, hborn]; rfl), hm'⟩
            simp [Instr.mapEntry, run_underlying hD, MapKept.run_getObj_map hx, MapKept.run_checkKey hkt hkey, MapKept.run_findKey hkt e2, e3', e4, MapKept.run_keyThatStays hkey, MapKept.run_setObj_map _ hx, hmod]
        · cases h
        · rename_i hf
          split at h
          · rename_i c
            split at h
            · rename_i z hz
              cases h
              obtain ⟨zv, g1, g2⟩ := aZero_ok hz
              rcases hm.find hv hkey with ⟨_, e2, e3⟩ | ⟨q', bo', j, e, e1, _⟩
              · have hm' := hm.push hv hkey (g2 r) e3
                have hc := hm.known c rfl
                refine ⟨_, .tuple #[zv, goInt clock], ?_, tup2 (g2 r) (by simp only [VRel, goInt, hc]; rfl), map_write hw (getMap_ok hl) hp hx h1 h2 hm'⟩
                simp [Instr.mapEntry, run_underlying hD, MapKept.run_getObj_map hx, MapKept.run_checkKey hkt hkey, MapKept.run_findKey hkt e2, g1, MapKept.run_setObj_map _ hx]
              · rw [hf] at e1; cases e1
            · cases h
          · cases h
      · cases h
    · cases h
  · cases h

theorem aEntryStore_ok (hw : WRel w0 r s w) {t : TypeId} {x k q : AV} {s' : St} (h : aEntryStore s x k q = some s') {u v z : Value} (hu : VRel r x u) (hv : VRel r k v) (hz : VRel r q z) :
    ∃ w', (Instr.entryStore t u v z).run P w = .ok () w' ∧ WRel w0 r s' w' := by
  unfold aEntryStore at h
  split at h
  · rename_i b
    simp only [VRel] at hu; obtain ⟨p, hp, rfl⟩ := hu
    split at h
    · rename_i kd l clk hb
      obtain ⟨es, clock, hx, h1, h2, hm⟩ := map_at hw hb hp
      split at h
      · rename_i kk n
        simp only [VRel] at hv; subst hv
        split at h <;> cases h
        rename_i hc
        simp only [Bool.and_eq_true] at hc
        obtain ⟨j, hj, hm'⟩ := hm.set hz hc.1 hc.2
        refine ⟨_, ?_, map_write hw hb hp hx h1 h2 hm'⟩
        have hj' : es.findIdx? (fun e => (e.born : Int) == Int.ofNat n) = some j := hj
        simp only [Instr.entryStore, Sem.run_bind, MapKept.run_getObj_map hx, Result.andThen_ok, asInt, asIntOf, Sem.run_pure, hj', MapKept.run_setObj_map _ hx]
      · cases h
    · cases h
  · cases h

theorem aDelete_ok (hw : WRel w0 r s w) {t : TypeId} {x k : AV} {s' : St} (h : aDelete P t s x k = some s') {u v : Value} (hu : VRel r x u) (hv : VRel r k v) {ts : Array TypeId} (ht : ts[0]? = some t) (ty : TypeId) :
    ∃ w', (Builtin.delete_ ts ty #[u, v]).run P w = .ok (.tuple #[]) w' ∧ WRel w0 r s' w' := by
  unfold aDelete at h
  split at h
  · rename_i kd et hkk
    obtain ⟨kt, hD, hkt, hkey⟩ := keyKind_ok hkk hv
    split at h
    · simp only [VRel] at hu; subst hu
      cases h
      exact ⟨w, by simp [Builtin.delete_, ht, run_underlying hD, MapKept.run_checkKey hkt hkey], hw⟩
    · rename_i b
      simp only [VRel] at hu; obtain ⟨p, hp, rfl⟩ := hu
      split at h
      · rename_i l clk hl
        obtain ⟨es, clock, hx, h1, h2, hm⟩ := map_at hw (getMap_ok hl) hp
        split at h
        · rename_i f hf
          cases h
          rcases hm.find hv hkey with ⟨e1, _⟩ | ⟨q', bo', j, e, e1, e2, e3, e4, e5, e6⟩
          · rw [hf] at e1; cases e1
          · refine ⟨_, ?_, map_write hw (getMap_ok hl) hp hx h1 h2 (hm.del hv hkey e3 e4)⟩
            simp [Builtin.delete_, ht, run_underlying hD, MapKept.run_getObj_map hx, MapKept.run_checkKey hkt hkey, MapKept.run_findKey hkt e2, MapKept.run_setObj_map _ hx]
        · rename_i hf
          cases h
          rcases hm.find hv hkey with ⟨_, e2, e3⟩ | ⟨q', bo', j, e, e1, _⟩
          · have hm' : WRel w0 r s { w with heap := w.heap.setIfInBounds p.blk (.map es clock) } := by
              have he : w.heap.setIfInBounds p.blk (.map es clock) = w.heap := by
                apply Array.ext_getElem?
                intro i
                by_cases hi : p.blk = i
                · subst hi
                  rw [hx, Array.getElem?_setIfInBounds_self_of_lt (Array.getElem?_eq_some_iff.1 hx).1]
                · rw [Array.getElem?_setIfInBounds_ne hi]
              rw [he]; exact hw
            refine ⟨_, ?_, hm'⟩
            simp [Builtin.delete_, ht, run_underlying hD, MapKept.run_getObj_map hx, MapKept.run_checkKey hkt hkey, MapKept.run_findKey hkt e2, MapKept.run_setObj_map _ hx]
          · rw [hf] at e1; cases e1
      · cases h
    · cases h
  · cases h

theorem VsRel.repl {r : Ren} {a : AV} {v : Value} (h : VRel r a v) : ∀ n, VsRel r (List.replicate n a) (List.replicate n v)
  | 0 => .nil
  | n + 1 => .cons h (VsRel.repl h n)
theorem zeroCells_one (v : Value) (n : Nat) : (Builtin.zeroCells #[v] n).toList = List.replicate n v := by
  apply List.ext_getElem?
  intro i
  simp [Builtin.zeroCells, List.getElem?_replicate]
  by_cases h : i < n
  · simp [h, Nat.mod_one]
  · simp [h]

theorem aClear_ok (hw : WRel w0 r s w) {t : TypeId} {x : AV} {s' : St} (h : aClear P t s x = some s') {u : Value} (hu : VRel r x u) {ts : Array TypeId} (ht : ts[0]? = some t) (ty : TypeId) :
    ∃ w', (Builtin.clear_ ts ty #[u]).run P w = .ok (.tuple #[]) w' ∧ WRel w0 r s' w' := by
  unfold aClear at h
  split at h
  · rename_i D hD
    split at h
    · simp only [VRel] at hu; subst hu
      cases h
      exact ⟨w, by simp [Builtin.clear_, ht, run_underlying hD], hw⟩
    · rename_i b
      simp only [VRel] at hu; obtain ⟨p, hp, rfl⟩ := hu
      split at h
      · rename_i kd l clk hb
        cases h
        obtain ⟨es, clock, hx, h1, h2, hm⟩ := map_at hw hb hp
        refine ⟨_, ?_, map_write hw hb hp hx h1 h2 (es' := #[]) (clock' := clock) ⟨stamped_empty clock, by simp, hm.known, [], .refl _, trivial⟩⟩
        simp [Builtin.clear_, ht, run_underlying hD, MapKept.run_getObj_map hx, MapKept.run_setObj_map _ hx]
      · cases h
    · simp only [VRel] at hu; subst hu
      cases h
      exact ⟨w, by simp [Builtin.clear_, ht, run_underlying hD], hw⟩
    · rename_i b o n cap
      simp only [VRel] at hu; obtain ⟨p, hp, rfl⟩ := hu
      split at h
      · rename_i hn
        have hn := Nat.eq_of_beq_eq_true hn; subst hn
        cases h
        exact ⟨w, by simp [Builtin.clear_, ht, run_underlying hD], hw⟩
      · rename_i hn0
        have hn0 : n ≠ 0 := fun e => by subst e; cases hn0
        unfold aClearSl at h
        split at h
        case h_2 => cases h
        rename_i e hD'
        rw [hD] at hD'; cases hD'
        split at h
        case h_2 => cases h
        rename_i hz
        split at h
        case h_2 => cases h
        rename_i obj hobj
        split at h
        case h_2 => cases h
        rename_i obj' hobj'
        cases h
        obtain ⟨z, z1, z2⟩ := aZero_ok hz
        have hzv : z = .pointer none := by simpa only [VRel] using z2 r
        subst hzv
        obtain ⟨w', k1, k2⟩ := writeFrag_ok (P := P) hw hobj hp hobj' (vs := List.replicate n (.pointer none)) ⟨VsRel.repl (by simp only [VRel]) n, fun v hv => by rw [List.eq_of_mem_replicate hv]; rfl⟩
        refine ⟨w', ?_, k2⟩
        obtain ⟨m, rfl⟩ : ∃ m, n = m + 1 := ⟨n - 1, by omega⟩
        simp [Builtin.clear_, ht, run_underlying hD, z1, Value.cells, zeroCells_one, k1]
    · cases h
  · cases h

theorem aMapLen_ok (hw : WRel w0 r s w) {t : TypeId} {x a : AV} (h : aMapLen P t s x = some a) {u : Value} (hu : VRel r x u) (ts : Array TypeId) (ht : ts[0]? = some t) (ty : TypeId) (us : Array Value) (hus : us[0]? = some u) :
    ∃ z, (Builtin.len_ ts ty us).run P w = .ok z w ∧ VRel r a z := by
  unfold aMapLen at h
  split at h
  · rename_i kt et hD
    split at h
    · rename_i b
      simp only [VRel] at hu; obtain ⟨p, hp, rfl⟩ := hu
      split at h
      · rename_i kd l clk hb
        cases h
        obtain ⟨es, clock, hx, h1, h2, hm⟩ := map_at hw hb hp
        obtain ⟨l', hp', ha⟩ := hm.ents
        have : es.size = l.length := by rw [← hp'.length_eq, ha.get.1]; simp
        exact ⟨goInt es.size, by simp [Builtin.len_, ht, hus, run_underlying hD, MapKept.run_getObj_map hx], by simp only [VRel, goInt, this]; rfl⟩
      · cases h
    · cases h
  · cases h

theorem aMkMap_ok (hw : WRel w0 r s w) (hn : s.next < 2 ^ HD) {t : TypeId} {o : AObj} (h : aMkMap P t = some o) :
    ∃ r' w' z, r.le r' ∧ (Instr.makeMap t none).run P w = .ok z w' ∧ VRel r' (.map s.next) z ∧ WRel w0 r' (s.new o) w' := by
  unfold aMkMap at h
  split at h
  · split at h
    · rename_i kd hkd
      cases h
      have ho : ObjRel r (.map kd [] (some 0)) ⟨w.heap.size, 0, 0⟩ (some (.map #[] 0)) :=
        ⟨#[], 0, rfl, rfl, rfl, ⟨stamped_empty 0, by simp, fun c hc => by cases hc; rfl, [], .refl _, trivial⟩⟩
      obtain ⟨g1, g2⟩ := hw.made hn ho
      refine ⟨_, _, .map (some w.heap.size), g2, rfl, ?_, g1⟩
      simp only [VRel]; exact ⟨_, Ren.put_same .., rfl⟩
    · cases h
  · cases h
end

/-! Copy, strings, bytes. -/
def aCopy (P : Program) (t0 : TypeId) (s : St) (x y : AV) : Option (AV × St) :=
  match P.underlying t0 with
  | some (.slice e) => match P.info? e with
    | some i => match srcLen y with
      | some m => match x with
        | .nilSlice => some (.int .i64 (.ofNat 0), s)
        | .slice b o len _ => match Nat.ble m len with
          | true => aCopyN b o m i.size s y
          | false => aCopyN b o len i.size s y
        | _ => none
      | none => none
    | none => none
  | _ => none
where
  aCopyN (b o n size : Nat) (s : St) (y : AV) : Option (AV × St) :=
    match Nat.beq n 0 with
    | true => some (.int .i64 (.ofNat 0), s)
    | false => match s.at b with
      | some obj => match (match y with | .str _ _ => Nat.beq size 1 | _ => true) with
        | true => match srcFrag s size n y with
          | some f => match writeFrag obj o f with
            | some obj' => some (.int .i64 (.ofNat n), s.set b obj')
            | none => none
          | none => none
        | false => none
      | none => none

/-- A string from bytes. -/
def aToStr (P : Program) (src dst : TypeId) (s : St) (x : AV) : Option AV :=
  match P.underlying src with
  | some (.slice e) => match P.underlying e with
    | some (.int .u8) => match P.underlying dst with
      | some .string => match x with
        | .nilSlice => some (.str 0 0)
        | .slice b o len _ => match s.at b with
          | some (.bytes _ n y _) => if Nat.ble (o + len) n = true then some (.str len (y / 256 ^ o % 256 ^ len)) else none
          | _ => none
        | _ => none
      | _ => none
    | _ => none
  | _ => none

/-- Bytes from a string. -/
def aToBytes (P : Program) (src dst : TypeId) (x : AV) : Option (AObj × Nat) :=
  match P.underlying src with
  | some .string => match P.underlying dst with
    | some (.slice e) => match P.underlying e with
      | some (.int .u8) => match x with
        | .str n y => some (.bytes e n y 1, n)
        | _ => none
      | _ => none
    | _ => none
  | _ => none

section
variable {P : Program} {w w0 : World} {r : Ren} {s : St}

theorem aCopy_ok (hw : WRel w0 r s w) {t0 : TypeId} {x y a : AV} {s' : St} (h : aCopy P t0 s x y = some (a, s')) {u v : Value} (hu : VRel r x u) (hv : VRel r y v) {ts : Array TypeId} (h0 : ts[0]? = some t0) (ty : TypeId) :
    ∃ w' q, (Builtin.copy_ ts ty #[u, v]).run P w = .ok q w' ∧ VRel r a q ∧ WRel w0 r s' w' := by
  unfold aCopy at h
  split at h
  · rename_i e hD
    split at h
    · rename_i i hi
      split at h
      · rename_i m hm
        have hlen := srcLen_run (P := P) hm hv
        have hs : ∀ w, (sizeOf e).run P w = .ok i.size w := fun w => by simp [sizeOf, typeInfo, hi]
        have first0 : ∀ w, (Builtin.firstCells i.size 0 v).run P w = .ok #[] w := fun w => by
          cases y <;> simp only [srcLen] at hm <;> try (cases hm; done)
          all_goals
            simp only [VRel] at hv
            (try obtain ⟨_, _, rfl⟩ := hv) <;> (try obtain ⟨_, rfl⟩ := hv) <;> (try subst hv) <;> simp [Builtin.firstCells, loadCells, loadCellsFrom]
          try (apply Array.ext'; simp)
        split at h
        · cases h
          simp only [VRel] at hu; subst hu
          refine ⟨w, goInt 0, ?_, by simp only [VRel, goInt]; rfl, hw⟩
          have e0 : Nat.min m 0 = 0 := Nat.min_zero m
          simp [Builtin.copy_, h0, run_underlying hD, hlen, hs, e0, first0]
        · rename_i b o len cap
          simp only [VRel] at hu; obtain ⟨p, hp, rfl⟩ := hu
          have main : ∀ n, n = Nat.min m len → aCopy.aCopyN b o n i.size s y = some (a, s') →
              ∃ w' q, (Builtin.copy_ ts ty #[.slice (some ⟨p.blk, o + p.shift, none⟩) len (cap + p.more), v]).run P w = .ok q w' ∧ VRel r a q ∧ WRel w0 r s' w' := fun n hn h => by
            unfold aCopy.aCopyN at h
            split at h
            · rename_i hz
              have hz : n = 0 := Nat.eq_of_beq_eq_true hz
              cases h
              refine ⟨w, goInt 0, ?_, by simp only [VRel, goInt]; rfl, hw⟩
              have e0 : Nat.min m len = 0 := by rw [← hn, hz]
              simp [Builtin.copy_, h0, run_underlying hD, hlen, hs, e0, first0, storeCells]
            · split at h
              · rename_i obj hobj
                split at h
                · rename_i hstr
                  split at h
                  · rename_i f hf
                    split at h
                    · rename_i obj' hobj'
                      cases h
                      obtain ⟨vs, k1, k2, k3⟩ := src_ok (P := P) hw hf ⟨m, hm, by rw [hn]; exact Nat.min_le_left _ _⟩ (fun m' q e => by subst e; exact Nat.eq_of_beq_eq_true hstr) hv
                      obtain ⟨w', j1, j2⟩ := writeFrag_ok (P := P) hw hobj hp hobj' k1
                      refine ⟨w', goInt n, ?_, by simp only [VRel, goInt]; rfl, j2⟩
                      have k3 := k3 w fun _ _ => rfl
                      simp only [Builtin.copy_, h0, Sem.run_bind, run_underlying hD, Result.andThen_ok, hlen, hs, ← hn, k3]
                      simp [h0, run_underlying hD, hlen, hs, ← hn, k3, j1]
                    · cases h
                  · cases h
                · cases h
              · cases h
          split at h
          · rename_i hle
            exact main m (Nat.min_eq_left (Nat.le_of_ble_eq_true hle)).symm h
          · rename_i hle
            have : ¬ m ≤ len := fun hh => by rw [Nat.ble_eq_true_of_le hh] at hle; cases hle
            exact main len (Nat.min_eq_right (by omega)).symm h
        · cases h
      · cases h
    · cases h
  · cases h

theorem aToStr_ok (hw : WRel w0 r s w) {src dst : TypeId} {x a : AV} (h : aToStr P src dst s x = some a) {u : Value} (hu : VRel r x u) : ∃ z, (convert src dst u).run P w = .ok z w ∧ VRel r a z := by
  unfold aToStr at h
  split at h
  · rename_i e hD
    split at h
    · rename_i he
      split at h
      · rename_i hd
        split at h
        · simp only [VRel] at hu; subst hu
          cases h
          refine ⟨.string .empty, ?_, by simp only [VRel]; exact ⟨by decide, rfl⟩⟩
          simp [convert, run_underlying hD, run_underlying hd, run_underlying he, Conv.bytesToString]
        · rename_i b o len cap
          simp only [VRel] at hu; obtain ⟨p, hp, rfl⟩ := hu
          split at h
          · rename_i e' n y opn hobj
            split at h <;> cases h
            rename_i hle
            have hle := Nat.le_of_ble_eq_true hle
            obtain ⟨vs, k1, k2⟩ := cutFrag_run (P := P) hw hobj hp (f := .b len (y / 256 ^ o % 256 ^ len)) (o := o) (n := len) (by simp only [cutFrag]; rw [if_pos (Nat.ble_eq_true_of_le hle)])
            have k2 := k2 w rfl
            simp only [FragRel] at k1
            refine ⟨.string (strOf len (y / 256 ^ o % 256 ^ len)), ?_, by simp only [VRel, and_true]; exact Nat.mod_lt _ (pow_pos' _)⟩
            have loop : ∀ (f : Value → ByteArray → Sem (ForInStep ByteArray)), (∀ (b : Nat) acc, f (.int .u8 b) acc = pure (.yield (acc.push (UInt8.ofNat b)))) → ∀ (bs : List Nat) (acc : ByteArray),
                (forIn (bs.map fun b : Nat => Value.int .u8 b) acc f).run P w = .ok ⟨(acc.data.toList ++ bs.map fun b => UInt8.ofNat b).toArray⟩ w := by
              intro f hf bs
              induction bs with
              | nil => intro acc; simp
              | cons b bs ih =>
                intro acc
                simp only [List.map_cons, List.forIn_cons, Sem.run_bind, hf, Sem.run_pure, Result.andThen_ok]
                rw [ih]
                simp [ByteArray.push]
            have e1 : (bytesOf len (y / 256 ^ o % 256 ^ len)).map (fun b : Nat => Value.int .u8 b) = vs := k1.symm
            simp only [convert, Sem.run_bind, run_underlying hD, run_underlying hd, run_underlying he, Result.andThen_ok, Conv.bytesToString, k2]
            rw [← Array.forIn_toList, List.toList_toArray, ← e1, loop _ (fun _ _ => rfl)]
            simp only [Result.andThen_ok, Sem.run_pure]
            congr 2
          · cases h
        · cases h
      · cases h
    · cases h
  · cases h

theorem aToBytes_ok (hw : WRel w0 r s w) (hn : s.next < 2 ^ HD) {src dst : TypeId} {x : AV} {o : AObj} {n : Nat} (h : aToBytes P src dst x = some (o, n)) {u : Value} (hu : VRel r x u) :
    ∃ r' w' z, r.le r' ∧ (convert src dst u).run P w = .ok z w' ∧ VRel r' (.slice s.next 0 n n) z ∧ WRel w0 r' (s.new o) w' := by
  unfold aToBytes at h
  split at h
  · rename_i hs
    split at h
    · rename_i e hD
      split at h
      · rename_i he
        split at h
        · rename_i m y
          cases h
          simp only [VRel] at hu; obtain ⟨hy, rfl⟩ := hu
          have hrun := run_bytes_of_string (P := P) w src dst e (strOf n y) hs hD he
          rw [strOf_size] at hrun
          have hcap := grownCap_ge w n 0 e
          have ecells : (bytesRow (strOf n y) (grownCap w n 0 e)).toList = u8Cells n y ++ List.replicate (grownCap w n 0 e - n) (.int .u8 0) := by
            simp only [bytesRow, strOf_size, Array.toList_append, Array.toList_map, strOf_data, Array.toList_replicate, u8Cells, List.map_map]
            congr 1
            refine List.map_congr_left fun b hb => ?_
            have := bytesOf_lt hb
            simp [Nat.mod_eq_of_lt this]
          have hsz : (bytesRow (strOf n y) (grownCap w n 0 e)).size = (u8Cells n y ++ List.replicate (grownCap w n 0 e - n) (Value.int .u8 0)).length := by rw [← ecells, Array.length_toList]
          have hob : ObjRel r (.bytes e n y 1) ⟨w.drew.heap.size, 0, grownCap w n 0 e - n⟩ (some (.cells (bytesRow (strOf n y) (grownCap w n 0 e)) e ((bytesRow (strOf n y) (grownCap w n 0 e)).size, (bytesRow (strOf n y) (grownCap w n 0 e)).size + 1))) :=
            ⟨[], List.replicate (grownCap w n 0 e - n) (.int .u8 0), _, by rw [List.nil_append, ← ecells, Array.toArray_toList], fun i hi h => by
              rw [List.nil_append, ← hsz] at hi
              exact absurd h.1 (by simp only; omega), rfl, by simp, by simp⟩
          obtain ⟨g1, g2⟩ := hw.drew.made hn hob
          refine ⟨_, _, _, g2, hrun, ?_, g1⟩
          simp only [VRel]
          exact ⟨_, Ren.put_same .., by simp only [Nat.add_sub_cancel' hcap]⟩
        · cases h
      · cases h
    · cases h
  · cases h
end
end
end Go.X

/- Slices with three bounds. -/
namespace Go.X
noncomputable section
set_option linter.unusedVariables false
set_option linter.unusedSimpArgs false

/-- A number without an object. -/
def St.bare (s : St) : St := ⟨(s.kill s.next).heap, Nat.succ s.next⟩

/-- A slice with three bounds: of nothing; within a capacity that is known; else: with no lower bound the row gets a new number (what is behind it is forgotten), with one the slice is a name without a row. -/
def aSlice3 (P : Program) (t : TypeId) (s : St) (x : AV) (lo : Option AV) (hi mx : AV) : Option (AV × St) :=
  match P.underlying t with
  | some (.slice e) => match x with
    | .nilSlice => match aBound (some mx) 0 0 with
      | some m => match aBound (some hi) 0 m with
        | some h => match aBound lo 0 h with
          | some _ => match P.info? e with | some _ => some (.nilSlice, s) | none => none
          | none => none
        | none => none
      | none => none
    | .slice b o len cap => match aBound (some mx) 0 cap with
      | some m => match aBound (some hi) 0 m with
        | some h => match lo with
          | none => match P.info? e with
            | some i => match s.at b with
              | some (.cells el l 0) => some (.slice b o h m, s)
              | some (.bytes el n y 0) => some (.slice b o h m, s)
              | some (.cells el l (k + 1)) => some (.slice s.next o h m, (s.kill b).new (.cells el l 0))
              | some (.bytes el n y (k + 1)) => some (.slice s.next o h m, (s.kill b).new (.bytes el n y 0))
              | _ => none
            | none => none
          | some a => match aBound (some a) 0 h with
            | some l => match P.info? e with
              | some i => match Nat.blt l m with
                | true => some (.slice s.next (o + l * i.size) (h - l) (m - l), s.bare)
                | false => none
              | none => none
            | none => none
        | none => none
      | none => none
    | _ => none
  | _ => none

section
variable {P : Program} {w w0 : World} {r : Ren} {s : St}

theorem bounds3 {hi mx : AV} {lo : Option AV} {lm m h l : Nat} (e0 : aBound (some mx) 0 lm = some m) (e1 : aBound (some hi) 0 m = some h) (e2 : aBound lo 0 h = some l) {uh um : Value} {ul : Option Value}
    (hx : lo = none → ul = none) (hx' : ∀ a, lo = some a → ∃ z, ul = some z ∧ VRel r a z) (hh : VRel r hi uh) (hm : VRel r mx um) (b : Bool) (n : Nat) :
    (Instr.sliceBounds b n lm ul (some uh) (some um)).run P w = .ok (l, h, m) w := by
  have one : ∀ {a : AV} {lim j : Nat} {u : Value} (c : BoundsCode), aBound (some a) 0 lim = some j → VRel r a u → (Instr.sliceBound u lim c).run P w = .ok j w := by
    intro a lim j u c h hu
    unfold aBound at h
    split at h
    · rename_i h'; cases h'
    · rename_i k jj h'
      cases h'
      split at h <;> cases h
      rename_i hj
      have hj := Nat.le_of_ble_eq_true hj
      simp only [VRel] at hu; subst hu
      have : (0 : Int) ≤ Int.ofNat j ∧ Int.ofNat j ≤ (lim : Int) := ⟨Int.natCast_nonneg _, by simpa using hj⟩
      simp [Instr.sliceBound, asIntOf]
      omega
    · cases h
  unfold Instr.sliceBounds
  simp only [Sem.run_bind, one _ e0 hm, Result.andThen_ok, one _ e1 hh]
  cases lo with
  | none =>
    rw [hx rfl]
    simp only [aBound, Option.some.injEq] at e2; subst e2
    simp [Sem.run_pure]
  | some a =>
    obtain ⟨z, rfl, hz⟩ := hx' a rfl
    simp [one _ e2 hz]

theorem WRel.bare (hw : WRel w0 r s w) (hn : s.next < 2 ^ HD) (p : Place) : WRel w0 (r.put s.next p) s.bare w ∧ r.le (r.put s.next p) := by
  have hr : r s.next = none := by
    cases hh : r s.next with
    | none => rfl
    | some q => have := hw.fresh _ _ hh; omega
  have hle := Ren.put_le hr (Nat.le_of_eq hw.bound) p
  refine ⟨?_, hle⟩
  have split : ∀ c q, (r.put s.next p) c = some q → (c = s.next ∧ q = p) ∨ (c ≠ s.next ∧ r c = some q ∧ c < s.next) := fun c q hc => by
    by_cases e : c = s.next
    · simp [Ren.put, e] at hc; exact .inl ⟨e, hc.symm⟩
    · simp [Ren.put, e] at hc; exact .inr ⟨e, hc, hw.fresh c q hc⟩
  have back : ∀ c oc q, s.bare.at c = some oc → (r.put s.next p) c = some q → c ≠ s.next ∧ s.at c = some oc ∧ r c = some q := fun c oc q hc hq => by
    have hc : (s.kill s.next).at c = some oc := hc
    rcases split c q hq with ⟨rfl, _⟩ | ⟨hne, hq, _⟩
    · rw [St.at_kill_same] at hc; cases hc
    · rw [St.at_kill_other s hn (hw.lt hq) (Ne.symm hne)] at hc; exact ⟨hne, hc, hq⟩
  refine ⟨hw.below, congrArg (· + 1) hw.bound, hn, fun c q hc => ?_, fun c oc q hc hq => ?_, fun c c' o1 o2 q q' h1 h2 h3 h4 h5 => ?_⟩
  · rcases split c q hc with ⟨rfl, _⟩ | ⟨_, _, h⟩
    · exact Nat.lt_succ_self _
    · exact Nat.lt_succ_of_lt h
  · obtain ⟨_, hc, hq⟩ := back c oc q hc hq
    obtain ⟨i1, i2⟩ := hw.own c oc q hc hq
    exact ⟨i1, i2.monoW hle.wle⟩
  · obtain ⟨_, k1, k2⟩ := back c o1 q h1 h3
    obtain ⟨_, k3, k4⟩ := back c' o2 q' h2 h4
    exact hw.apart c c' o1 o2 q q' k1 k3 k2 k4 h5

theorem aSlice3_ok (hw : WRel w0 r s w) (hn : s.next < 2 ^ HD) {t : TypeId} {x hi mx a : AV} {lo : Option AV} {s' : St} (h : aSlice3 P t s x lo hi mx = some (a, s')) {u uh um : Value} (hu : VRel r x u) {ul : Option Value}
    (hx : lo = none → ul = none) (hx' : ∀ a, lo = some a → ∃ z, ul = some z ∧ VRel r a z) (hh : VRel r hi uh) (hm : VRel r mx um) :
    ∃ r' z, r.le r' ∧ (Instr.sliceAt t u ul (some uh) (some um)).run P w = .ok z w ∧ VRel r' a z ∧ WRel w0 r' s' w := by
  unfold aSlice3 at h
  split at h
  · rename_i e hD
    have enter : (Instr.sliceAt t u ul (some uh) (some um)).run P w = (Instr.slice t u ul (some uh) (some um)).run P w := by
      simp only [Instr.sliceAt, Sem.run_bind, run_underlying hD, Result.andThen_ok]
    split at h
    · simp only [VRel] at hu; subst hu
      split at h
      · rename_i m e0
        split at h
        · rename_i hb e1
          split at h
          · rename_i l e2
            split at h
            case h_2 => cases h
            rename_i i hie
            cases h
            have hbn := bounds3 (P := P) (w := w) e0 e1 e2 hx hx' hh hm true 0
            have b0 := aBound_le e0 (Nat.le_refl _)
            have b1 := aBound_le e1 (Nat.zero_le _)
            have b2 := aBound_le e2 (Nat.zero_le _)
            have : m = 0 := by omega
            subst this
            have : hb = 0 := by omega
            subst this
            have : l = 0 := by omega
            subst this
            have hs : ∀ w, (sizeOf e).run P w = .ok i.size w := fun w => by simp [sizeOf, typeInfo, hie]
            refine ⟨r, .slice none 0 0, Ren.le_refl r, ?_, by simp only [VRel], hw⟩
            rw [enter]
            simp [Instr.slice, run_underlying hD, hbn, hs]
          · cases h
        · cases h
      · cases h
    · rename_i b o len cap
      simp only [VRel] at hu; obtain ⟨p, hp, rfl⟩ := hu
      split at h
      · rename_i m e0
        split at h
        · rename_i hb e1
          split at h
          · split at h
            · rename_i i hie
              have hs : ∀ w, (sizeOf e).run P w = .ok i.size w := fun w => by simp [sizeOf, typeInfo, hie]
              have hbn := bounds3 (P := P) (w := w) (aBound_more e0 p.more) e1 (lo := none) (h := hb) (l := 0) rfl hx hx' hh hm true len
              have hrun : (Instr.sliceAt t (.slice (some ⟨p.blk, o + p.shift, none⟩) len (cap + p.more)) ul (some uh) (some um)).run P w = .ok (.slice (some ⟨p.blk, o + p.shift, none⟩) hb m) w := by
                rw [enter]
                simp only [Instr.slice, Sem.run_bind, run_underlying hD, Result.andThen_ok, hbn, hs, Sem.run_pure]
                split <;> simp [add_none]
              split at h
              · rename_i el l hob
                cases h
                have hm0 := closed_more hw hob hp rfl
                exact ⟨r, _, Ren.le_refl r, hrun, by simp only [VRel]; exact ⟨p, hp, by rw [hm0]; rfl⟩, hw⟩
              · rename_i el n y hob
                cases h
                have hm0 := closed_more hw hob hp rfl
                exact ⟨r, _, Ren.le_refl r, hrun, by simp only [VRel]; exact ⟨p, hp, by rw [hm0]; rfl⟩, hw⟩
              · rename_i el l k hob
                cases h
                obtain ⟨_, pre, vs, post, fz, hxx, hf, h3, h4, h5, h6, h7⟩ := hw.own b _ p hob hp
                obtain ⟨g1, g2⟩ := hw.moved (w' := w) (o' := .cells el l 0) (p' := ⟨p.blk, p.shift, 0⟩) hn hob hp ⟨fun _ _ => rfl, rfl, rfl, rfl, rfl, hxx⟩ rfl ⟨pre, vs, post, fz, rfl, hf, h3, fun h => absurd rfl h, fun _ => rfl, h6, h7⟩
                exact ⟨_, _, g2, hrun, by simp only [VRel]; exact ⟨_, Ren.put_same .., rfl⟩, g1⟩
              · rename_i el n y k hob
                cases h
                obtain ⟨_, pre, post, fz, hxx, hf, h3, h4, h5⟩ := hw.own b _ p hob hp
                obtain ⟨g1, g2⟩ := hw.moved (w' := w) (o' := .bytes el n y 0) (p' := ⟨p.blk, p.shift, 0⟩) hn hob hp ⟨fun _ _ => rfl, rfl, rfl, rfl, rfl, hxx⟩ rfl ⟨pre, post, fz, rfl, hf, h3, fun h => absurd rfl h, fun _ => rfl⟩
                exact ⟨_, _, g2, hrun, by simp only [VRel]; exact ⟨_, Ren.put_same .., rfl⟩, g1⟩
              · cases h
            · cases h
          · rename_i a'
            split at h
            · rename_i l e2
              split at h
              · rename_i i hie
                have hs : ∀ w, (sizeOf e).run P w = .ok i.size w := fun w => by simp [sizeOf, typeInfo, hie]
                have hbn := bounds3 (P := P) (w := w) (aBound_more e0 p.more) e1 e2 hx hx' hh hm true len
                split at h
                · rename_i hlt
                  have hlt : l < m := Nat.le_of_ble_eq_true hlt
                  cases h
                  obtain ⟨g1, g2⟩ := hw.bare hn ⟨p.blk, p.shift, 0⟩
                  refine ⟨_, .slice (some ⟨p.blk, o + p.shift + l * i.size, none⟩) (hb - l) (m - l), g2, ?_, ?_, g1⟩
                  · rw [enter]
                    simp only [Instr.slice, Sem.run_bind, run_underlying hD, Result.andThen_ok, hbn, hs, Sem.run_pure]
                    rw [if_neg (by omega)]; simp [add_none]
                  · simp only [VRel]; exact ⟨_, Ren.put_same .., by simp only [Nat.add_zero, Nat.add_right_comm]⟩
                · cases h
              · cases h
            · cases h
        · cases h
      · cases h
    · cases h
  · cases h
end
end
end Go.X

/- Going over a map: 'range', 'next', 'entry'. -/
namespace Go.X
noncomputable section
set_option linter.unusedVariables false
set_option linter.unusedSimpArgs false
open Go.MapKept

/-- An iterator. -/
def aRange (P : Program) (t : TypeId) (s : St) (x : AV) : Option AObj :=
  match P.underlying t with
  | some (.map _ _) => match x with
    | .nilMap => some (.iter none 0 [] 0)
    | .map b => match s.at b with
      | some (.map _ _ (some c)) => some (.iter (some b) c [] c)
      | _ => none
    | _ => none
  | _ => none

def findBorn (n : Nat) : List Ent → Option Ent
  | [] => none
  | x :: l => match bornIs n x with
    | true => some x
    | false => findBorn n l

/-- The entry that came last. -/
def aEntry (s : St) (x : AV) : Option AV :=
  match x with
  | .ptr b 0 => match s.at b with
    | some (.iter (some m) _ seen last) => match s.at m with
      | some (.map _ l (some c)) => match Nat.beq c last, seen.reverse with
        | true, n :: _ => match findBorn n l with
          | some (k, v, _) => some (.tup [k, v])
          | none => none
        | _, _ => none
      | _ => none
    | _ => none
  | _ => none

def memN (n : Nat) : List Nat → Bool
  | [] => false
  | m :: l => match Nat.beq m n with
    | true => true
    | false => memN n l
def oldEnt (since : Nat) (x : Ent) : Bool := match x.2.2 with | some n => Nat.blt n since | none => false
def isLeft (seen : List Nat) (x : Ent) : Bool := match x.2.2 with | some n => !memN n seen | none => false
def stepTo (s : St) (b m since : Nat) (seen : List Nat) (c : Nat) (x : Ent) : AV × St :=
  (.tup [.bool true, x.1, x.2.1], s.set b (.iter (some m) since (seen ++ [match x.2.2 with | some n => n | none => 0]) c))

/-- The next entry: one of these. -/
def aNext (s : St) (x : AV) : Option (List (AV × St)) :=
  match x with
  | .ptr b 0 => match s.at b with
    | some (.iter none _ _ _) => some [(.tup [.bool false], s)]
    | some (.iter (some m) since seen last) => match s.at m with
      | some (.map _ l (some c)) => match Nat.ble since last && l.all (oldEnt since) with
        | true => match l.filter (isLeft seen) with
          | [] => some [(.tup [.bool false], s)]
          | x :: q => some ((x :: q).map (stepTo s b m since seen c))
        | false => none
      | _ => none
    | _ => none
  | _ => none

section
variable {P : Program} {w0 w : World} {r : Ren} {s : St}

theorem aRange_ok (hw : WRel w0 r s w) (hn : s.next < 2 ^ HD) {t : TypeId} {x : AV} {o : AObj} (h : aRange P t s x = some o) {u : Value} (hu : VRel r x u) :
    ∃ r' w' z, r.le r' ∧ (Instr.range t u).run P w = .ok z w' ∧ VRel r' (.ptr s.next 0) z ∧ WRel w0 r' (s.new o) w' := by
  unfold aRange at h
  split at h
  · rename_i k e ht
    split at h
    · cases h
      simp only [VRel] at hu; subst hu
      have ho : ObjRel r (.iter none 0 [] 0) ⟨w.heap.size, 0, 0⟩ (some (.mapIter none 0 #[] 0)) := ⟨rfl, rfl, rfl⟩
      obtain ⟨g1, g2⟩ := hw.made hn ho
      exact ⟨_, _, _, g2, run_range_nilMap w t k e ht, by simp only [VRel]; exact ⟨_, Ren.put_same .., rfl⟩, g1⟩
    · rename_i b
      simp only [VRel] at hu; obtain ⟨p, hp, rfl⟩ := hu
      split at h
      · rename_i kd l c hb
        cases h
        obtain ⟨es, clock, hx, h1, h2, hm⟩ := map_at hw hb hp
        have hc := hm.known c rfl
        subst hc
        have ho : ObjRel r (.iter (some b) clock [] clock) ⟨w.heap.size, 0, 0⟩ (some (.mapIter (some p.blk) clock #[] clock)) := ⟨⟨p, hp, rfl⟩, rfl, rfl⟩
        obtain ⟨g1, g2⟩ := hw.made hn ho
        exact ⟨_, _, _, g2, run_range_map w t k e p.blk es clock ht hx, by simp only [VRel]; exact ⟨_, Ren.put_same .., rfl⟩, g1⟩
      · cases h
    · cases h
  · cases h

theorem findBorn_some {n : Nat} : ∀ {l : List Ent} {x : Ent}, findBorn n l = some x → x ∈ l ∧ bornIs n x = true
  | [], x, h => by simp [findBorn] at h
  | y :: l, x, h => by
    simp only [findBorn] at h
    split at h
    · rename_i hy; cases h; exact ⟨List.mem_cons_self .., hy⟩
    · obtain ⟨h1, h2⟩ := findBorn_some h; exact ⟨List.mem_cons_of_mem _ h1, h2⟩

theorem memN_eq (n : Nat) : ∀ l : List Nat, memN n l = l.contains n
  | [] => rfl
  | m :: l => by
    simp only [memN, List.contains_cons]
    split
    · rename_i h; have := Nat.eq_of_beq_eq_true h; subst this; simp
    · rename_i h
      have : ¬ n = m := fun e => by subst e; rw [Nat.beq_refl] at h; cases h
      rw [memN_eq n l]; simp [this]

/-- What stands for what, either way. -/
theorem MapRel.to_conc {kd : KK} {l : List Ent} {clk : Option Nat} {es : Array MapEntry} {clock : Nat} (hm : MapRel r kd l clk es clock) {x : Ent} (hx : x ∈ l) : ∃ e ∈ es.toList, entRel r x e := by
  obtain ⟨l', hp, ha⟩ := hm.ents
  obtain ⟨hlen, hget⟩ := ha.get
  obtain ⟨i, hi⟩ := List.mem_iff_getElem?.1 (hp.mem_iff.2 hx)
  have : i < es.toList.length := by rw [← hlen]; exact (List.getElem?_eq_some_iff.1 hi).1
  exact ⟨es.toList[i], List.getElem_mem _, hget i x _ hi (List.getElem?_eq_getElem this)⟩
theorem MapRel.to_abs {kd : KK} {l : List Ent} {clk : Option Nat} {es : Array MapEntry} {clock : Nat} (hm : MapRel r kd l clk es clock) {e : MapEntry} (he : e ∈ es.toList) : ∃ x ∈ l, entRel r x e := by
  obtain ⟨l', hp, ha⟩ := hm.ents
  obtain ⟨hlen, hget⟩ := ha.get
  obtain ⟨i, hi⟩ := List.mem_iff_getElem?.1 he
  have : i < l'.length := by rw [hlen]; exact (List.getElem?_eq_some_iff.1 hi).1
  exact ⟨l'[i], hp.mem_iff.1 (List.getElem_mem _), hget i _ e (List.getElem?_eq_getElem this) hi⟩

theorem bornIs_ok {n : Nat} {x : Ent} (h : bornIs n x = true) : x.2.2 = some n := by
  unfold bornIs at h
  split at h
  · rename_i m hm; rw [Nat.eq_of_beq_eq_true h] at hm; exact hm
  · cases h

theorem aEntry_ok (hw : WRel w0 r s w) {x a : AV} (h : aEntry s x = some a) {u : Value} (hu : VRel r x u) : ∃ z, (Instr.entry u).run P w = .ok z w ∧ VRel r a z := by
  unfold aEntry at h
  split at h
  · rename_i b
    simp only [VRel] at hu; obtain ⟨p, hp, rfl⟩ := hu
    split at h
    · rename_i m since seen last hb
      split at h
      · rename_i kd l c hmm
        split at h
        · rename_i n q hc hs
          split at h
          · rename_i k v bo hf
            cases h
            have hc := Nat.eq_of_beq_eq_true hc
            subst hc
            obtain ⟨⟨pm, hpm, hx⟩, hsh, _⟩ := (hw.own b _ p hb hp).2
            obtain ⟨es, clock, hy, _, _, hm⟩ := map_at hw hmm hpm
            have hck := hm.known c rfl
            subst hck
            obtain ⟨h1, h2⟩ := findBorn_some hf
            obtain ⟨e, he, e1, e2, e3⟩ := hm.to_conc h1
            have hbo := e3 n (bornIs_ok h2)
            have hseen : seen = q.reverse ++ [n] := by have := congrArg List.reverse hs; simpa using this
            have hx' : w.heap[p.blk]? = some (.mapIter (some pm.blk) since (q.reverse.toArray.push e.born) clock) := by rw [hx, hseen, hbo]; simp
            have := run_entry_at (P := P) w p.blk pm.blk since q.reverse.toArray es clock e hx' hy he hm.stamped.2.1
            refine ⟨_, ?_, tup2 e1 e2⟩
            rw [show (0 + p.shift) = 0 by omega]
            exact this
          · cases h
        · cases h
      · cases h
    · cases h
  · cases h

theorem run_next_nil_at (w : World) (ty : TypeId) (g a b : Nat) (s : Array Nat) (h : w.heap[g]? = some (.mapIter none a s b)) :
    (Instr.next (.pointer (some ⟨g, 0, none⟩)) false ty).run P w = .ok (.tuple #[.bool false]) w := by
  simp only [Instr.next, getObj, Sem.run_bind, Sem.run, h, Result.andThen]
  rfl

theorem tup1 {a : AV} {u : Value} (h1 : VRel r a u) : VRel r (.tup [a]) (.tuple #[u]) := by
  simp only [VRel]; exact ⟨[u], rfl, .cons h1 .nil⟩
theorem tup3 {a b c : AV} {u v z : Value} (h1 : VRel r a u) (h2 : VRel r b v) (h3 : VRel r c z) : VRel r (.tup [a, b, c]) (.tuple #[u, v, z]) := by
  simp only [VRel]; exact ⟨[u, v, z], rfl, .cons h1 (.cons h2 (.cons h3 .nil))⟩

theorem aNext_ok (hw : WRel w0 r s w) {x : AV} {outs : List (AV × St)} (h : aNext s x = some outs) {u : Value} (hu : VRel r x u) (ty : TypeId) :
    ∃ q ∈ outs, ∃ w' z, (Instr.next u false ty).run P w = .ok z w' ∧ VRel r q.1 z ∧ WRel w0 r q.2 w' := by
  unfold aNext at h
  split at h
  · rename_i b
    simp only [VRel] at hu; obtain ⟨p, hp, rfl⟩ := hu
    split at h
    · rename_i since seen last hb
      cases h
      obtain ⟨hx, hsh, _⟩ := (hw.own b _ p hb hp).2
      refine ⟨_, List.mem_singleton_self _, w, _, ?_, tup1 (by simp only [VRel]; rfl), hw⟩
      rw [show (0 + p.shift) = 0 by omega]
      exact run_next_nil_at w ty p.blk _ _ _ hx
    · rename_i m since seen last hb
      split at h
      · rename_i kd l c hmm
        split at h
        · rename_i hcond
          simp only [Bool.and_eq_true] at hcond
          have hsl := Nat.le_of_ble_eq_true hcond.1
          have hold := List.all_eq_true.1 hcond.2
          obtain ⟨⟨pm, hpm, hx⟩, hsh, hmore⟩ := (hw.own b _ p hb hp).2
          obtain ⟨es, clock, hy, y1, y2, hm⟩ := map_at hw hmm hpm
          have hck := hm.known c rfl
          subst hck
          have hbn : ∀ y ∈ l, ∃ n, y.2.2 = some n ∧ n < since := fun y hy => by
            have := hold y hy
            unfold oldEnt at this
            split at this
            · rename_i n hn; exact ⟨n, hn, Nat.le_of_ble_eq_true this⟩
            · cases this
          have hold' : ∀ e ∈ es.toList, e.born < since := fun e he => by
            obtain ⟨y, hy, _, _, h3⟩ := hm.to_abs he
            obtain ⟨n, hn, hlt⟩ := hbn y hy
            rw [h3 n hn]; exact hlt
          rw [show (0 + p.shift) = 0 by omega]
          have hleft : ∀ (y : Ent) (e : MapEntry), entRel r y e → y ∈ l → (isLeft seen y = !seen.toArray.contains e.born) := fun y e hr hy => by
            obtain ⟨n, hn, _⟩ := hbn y hy
            unfold isLeft
            rw [hn]
            simp only [memN_eq, hr.2.2 n hn, List.contains_toArray]
          rcases run_next_at (P := P) w ty p.blk pm.blk since last seen.toArray es clock hx hy hold' hsl with ⟨h0, hrun⟩ | ⟨e, he, w1, hw1, hrun⟩
          · have hnil : l.filter (isLeft seen) = [] := by
              rw [List.filter_eq_nil_iff]
              intro y hyl hy'
              obtain ⟨e, he, hr⟩ := hm.to_conc hyl
              rw [hleft y e hr hyl] at hy'
              have : e ∈ leftOf es seen.toArray := by
                unfold leftOf
                rw [Array.mem_filter]
                exact ⟨Array.mem_toList_iff.1 he, hy'⟩
              rw [Array.eq_empty_of_size_eq_zero h0] at this
              simp at this
            rw [hnil] at h
            cases h
            exact ⟨_, List.mem_singleton_self _, w, _, hrun, tup1 (by simp only [VRel]), hw⟩
          · obtain ⟨hes, hns⟩ := mem_left he
            obtain ⟨y, hyl, hr⟩ := hm.to_abs hes
            have hyf : y ∈ l.filter (isLeft seen) := by
              rw [List.mem_filter, hleft y e hr hyl, hns]; exact ⟨hyl, rfl⟩
            obtain ⟨n, hn, _⟩ := hbn y hyl
            have houts : stepTo s b m since seen clock y ∈ outs := by
              split at h
              · rename_i hf; rw [hf] at hyf; cases hyf
              · rename_i x q hf
                cases h
                rw [hf] at hyf
                exact List.mem_map_of_mem hyf
            refine ⟨_, houts, _, _, hrun, tup3 (by simp only [VRel]) hr.1 hr.2.1, ?_⟩
            have hw1' : WRel w0 r s w1 := by
              rcases hw1 with rfl | rfl
              · exact hw
              · exact hw.drew
            have hx1 : w1.heap[p.blk]? = some (.mapIter (some pm.blk) since seen.toArray last) := by rcases hw1 with rfl | rfl <;> exact hx
            show WRel w0 r (s.set b (.iter (some m) since (seen ++ [match y.2.2 with | some n => n | none => 0]) clock)) (ChangeMaps.setBlock w1 p.blk _)
            rw [hn]
            refine hw1'.replace hb hp (x := .mapIter none 0 #[] 0) (fun k hk => (heap_set hx1).2 k hk) (by simp [ChangeMaps.setBlock]) rfl rfl rfl ?_
            refine ⟨⟨pm, hpm, ?_⟩, hsh, hmore⟩
            have := (heap_set (o' := .mapIter (some pm.blk) since (seen.toArray.push e.born) clock) hx1).1
            rw [show (ChangeMaps.setBlock w1 p.blk (.mapIter (some pm.blk) since (seen.toArray.push e.born) clock)).heap = w1.heap.setIfInBounds p.blk (.mapIter (some pm.blk) since (seen.toArray.push e.born) clock) from rfl, this, hr.2.2 n hn]
            simp
        · cases h
      · cases h
    · cases h
  · cases h
end
end
end Go.X

/- The abstract executor. -/
namespace Go.X
noncomputable section
set_option linter.unusedVariables false

/-- What a call is answered with: the program's functions; those that have no body; those that are known already. -/
structure Ctx where
  P : Program
  call : Nat → List AV → St → Option (AV × St)
  dcall : Nat → List AV → St → Option (AV × St)
  ext : Nat → Option (List AV → St → Option (AV × St))

def eget (d : Nat) (env : T AV) (t : Nat) : AV := match (T.at (path d t) env).val with | some v => v | none => .undef

def aEval (d : Nat) (env : T AV) : Operand → Option AV
  | .tmp t => if Nat.blt t (2 ^ d) = true then some (eget d env t) else none
  | .const v => match ofValue v with | some a => some a | none => none
  | .global _ => none
  | .func f => some (.func (.func f) [] [])

def aEvals (d : Nat) (env : T AV) : List Operand → Option (List AV)
  | [] => some []
  | x :: l => match aEval d env x with
    | some v => match aEvals d env l with
      | some m => some (v :: m)
      | none => none
    | none => none

def aParts (d : Nat) (env : T AV) : List (Nat × Operand) → Option (List (Nat × AV))
  | [] => some []
  | (i, x) :: l => match aEval d env x with
    | some v => match aParts d env l with
      | some m => some ((i, v) :: m)
      | none => none
    | none => none

/-- An optional operand. -/
def aOpt (d : Nat) (env : T AV) : Option Operand → Option (Option AV)
  | none => some none
  | some x => match aEval d env x with
    | some v => some (some v)
    | none => none

def pureSt (s : St) (v : Option AV) : Option (AV × St) := match v with | some v => some (v, s) | none => none
def unitSt (s : Option St) : Option (AV × St) := match s with | some s => some (.undef, s) | none => none
def newSt (s : St) (o : Option AObj) (v : AV) : Option (AV × St) :=
  match o with
  | some o => if Nat.blt s.next (2 ^ HD) = true then some (v, s.new o) else none
  | none => none

def aNilCheck (x : AV) : Option AV :=
  match x with
  | .ptr b o => some (.ptr b o)
  | .iface t v => some (.iface t v)
  | .func (.func f) a c => some (.func (.func f) a c)
  | _ => none

/-- A pointer as an unsafe one. -/
def aUnsafe (P : Program) (src dst : TypeId) (s : St) (x : AV) : Option AV :=
  match P.underlying src with
  | some (.pointer t) => match P.underlying dst with
    | some .unsafePointer => match x with
      | .ptr b o => match s.at b with
        | some (.cells e l opn) => match P.info? t with
          | some i => if (Nat.blt 0 i.size && Nat.blt o l.length) = true then some (.ptr b o) else none
          | none => none
        | _ => none
      | _ => none
    | _ => none
  | _ => none

def aConvert (P : Program) (src dst : TypeId) (s : St) (x : AV) : Option (AV × St) :=
  match P.underlying dst with
  | some (.int _) => pureSt s (aConvInt P src dst x)
  | some .string => match x with
    | .str _ _ => pureSt s (aConvInt P src dst x)
    | _ => pureSt s (aToStr P src dst s x)
  | some (.slice _) => match aToBytes P src dst x with
    | some (o, n) => newSt s (some o) (.slice s.next 0 n n)
    | none => none
  | some .unsafePointer => pureSt s (aUnsafe P src dst s x)
  | _ => none

def aCap (P : Program) (t : TypeId) (s : St) (x : AV) : Option AV :=
  match P.underlying t with
  | some (.slice _) => match x with
    | .nilSlice => some (.int .i64 (.ofNat 0))
    | .slice b _ _ cap => match s.at b with
      | some obj => if obj.closed = true then some (.int .i64 (.ofNat cap)) else none
      | none => none
    | _ => none
  | _ => none

def aBuiltin (P : Program) (b : Builtin) (ts : Array TypeId) (args : List AV) (s : St) : Option (AV × St) :=
  match b with
  | .append => match args with
    | [x, y] => match ts[0]? with
      | some t0 => match ts[1]? with
        | some t1 => aAppend P t0 t1 s x y
        | none => none
      | none => none
    | _ => none
  | .len => match args with
    | [x] => match ts[0]? with
      | some t => match x with
        | .map _ => pureSt s (aMapLen P t s x)
        | x => pureSt s (aLen P t x)
      | none => none
    | _ => none
  | .cap => match args with
    | [x] => match ts[0]? with
      | some t => pureSt s (aCap P t s x)
      | none => none
    | _ => none
  | .copy => match args with
    | [x, y] => match ts[0]? with
      | some t => aCopy P t s x y
      | none => none
    | _ => none
  | .min => match args with
    | [x, y] => pureSt s (aMinMax false x y)
    | _ => none
  | .max => match args with
    | [x, y] => pureSt s (aMinMax true x y)
    | _ => none
  | .delete => match args with
    | [x, y] => match ts[0]? with
      | some t => match aDelete P t s x y with
        | some s' => some (.tup [], s')
        | none => none
      | none => none
    | _ => none
  | .clear => match args with
    | [x] => match ts[0]? with
      | some t => match aClear P t s x with
        | some s' => some (.tup [], s')
        | none => none
      | none => none
    | _ => none
  | _ => none

def aCallFn (C : Ctx) (f : AV) (args : List AV) (s : St) : Option (AV × St) :=
  match f with
  | .func (.func g) first cap => match C.ext g with
    | some e => e (first ++ args ++ cap) s
    | none => C.call g (first ++ args ++ cap) s
  | _ => none

def sMove (x : Operand) (C : Ctx) (d : Nat) (env : T AV) (s : St) : Option (AV × St) :=
  pureSt s (aEval d env x)

def sPick (c : Operand) (a : Operand) (b : Operand) (C : Ctx) (d : Nat) (env : T AV) (s : St) : Option (AV × St) :=
  match aEval d env c with
  | some (.bool true) => pureSt s (aEval d env a)
  | some (.bool false) => pureSt s (aEval d env b)
  | _ => none

def sAlloc (t : TypeId) (C : Ctx) (d : Nat) (env : T AV) (s : St) : Option (AV × St) :=
  newSt s (aAlloc C.P t) (.ptr s.next 0)

def sBox (t : TypeId) (x : Operand) (C : Ctx) (d : Nat) (env : T AV) (s : St) : Option (AV × St) :=
  match aEval d env x with
  | some v => newSt s (rowOf t v) (.ptr s.next 0)
  | none => none

def sBuild (t : TypeId) (parts : Array (Nat × Operand)) (C : Ctx) (d : Nat) (env : T AV) (s : St) : Option (AV × St) :=
  match aParts d env parts.toList with
  | some ps => pureSt s (aBuild C.P t ps)
  | none => none

def sBuildSlice (t : TypeId) (len : Nat) (parts : Array (Nat × Operand)) (C : Ctx) (d : Nat) (env : T AV) (s : St) : Option (AV × St) :=
  match aParts d env parts.toList with
  | some ps => newSt s (aBuildSlice C.P t len ps) (.slice s.next 0 len len)
  | none => none

def sLoad (t : TypeId) (x : Operand) (C : Ctx) (d : Nat) (env : T AV) (s : St) : Option (AV × St) :=
  match aEval d env x with
  | some v => pureSt s (aLoad C.P t s v)
  | none => none

def sStore (t : TypeId) (x : Operand) (y : Operand) (C : Ctx) (d : Nat) (env : T AV) (s : St) : Option (AV × St) :=
  match aEval d env x with
  | some v => match aEval d env y with
    | some z => unitSt (aStore C.P t s v z)
    | none => none
  | none => none

def sNilCheck (x : Operand) (C : Ctx) (d : Nat) (env : T AV) (s : St) : Option (AV × St) :=
  match aEval d env x with
  | some v => pureSt s (aNilCheck v)
  | none => none

def sBinOp (op : BinOp) (t : TypeId) (x : Operand) (y : Operand) (C : Ctx) (d : Nat) (env : T AV) (s : St) : Option (AV × St) :=
  match aEval d env x with
  | some v => match aEval d env y with
    | some z => pureSt s (aBin C.P op t x y v z)
    | none => none
  | none => none

def sUnOp (op : UnOp) (x : Operand) (C : Ctx) (d : Nat) (env : T AV) (s : St) : Option (AV × St) :=
  match aEval d env x with
  | some v => pureSt s (aUn op v)
  | none => none

def sConvert (src : TypeId) (dst : TypeId) (x : Operand) (C : Ctx) (d : Nat) (env : T AV) (s : St) : Option (AV × St) :=
  match aEval d env x with
  | some v => aConvert C.P src dst s v
  | none => none

def sMakeInterface (t : TypeId) (x : Operand) (C : Ctx) (d : Nat) (env : T AV) (s : St) : Option (AV × St) :=
  match aEval d env x with
  | some v => pureSt s (aMkIface C.P t v)
  | none => none

def sMakeFunc (fn : Fn) (first : Array Operand) (cap : Array Operand) (C : Ctx) (d : Nat) (env : T AV) (s : St) : Option (AV × St) :=
  match aEvals d env first.toList with
  | some a => match aEvals d env cap.toList with
    | some c => some (.func fn a c, s)
    | none => none
  | none => none

def sMakeMap (t : TypeId) (C : Ctx) (d : Nat) (env : T AV) (s : St) : Option (AV × St) :=
  newSt s (aMkMap C.P t) (.map s.next)

def sMakeSlice (t : TypeId) (l : Operand) (c : Operand) (C : Ctx) (d : Nat) (env : T AV) (s : St) : Option (AV × St) :=
  match aEval d env l with
  | some v => match aEval d env c with
    | some z => match aMake C.P t v z with
      | some (o, l, c) => newSt s (some o) (.slice s.next 0 l c)
      | none => none
    | none => none
  | none => none

def sSlice (t : TypeId) (x : Operand) (lo : Option Operand) (hi : Option Operand) (C : Ctx) (d : Nat) (env : T AV) (s : St) : Option (AV × St) :=
  match aEval d env x with
  | some v => match aOpt d env lo with
    | some l => match aOpt d env hi with
      | some h => pureSt s (aSlice C.P t s v l h)
      | none => none
    | none => none
  | none => none

def sSlice3 (t : TypeId) (x : Operand) (lo : Option Operand) (hi mx : Operand) (C : Ctx) (d : Nat) (env : T AV) (s : St) : Option (AV × St) :=
  match Nat.blt s.next (2 ^ HD) with
  | true => match aEval d env x with
    | some v => match aOpt d env lo with
      | some l => match aEval d env hi with
        | some h => match aEval d env mx with
          | some m => aSlice3 C.P t s v l h m
          | none => none
        | none => none
      | none => none
    | none => none
  | false => none

def sFieldAddr (t : TypeId) (x : Operand) (f : Nat) (C : Ctx) (d : Nat) (env : T AV) (s : St) : Option (AV × St) :=
  match aEval d env x with
  | some v => pureSt s (aFieldAddr C.P t v f)
  | none => none

def sField (t : TypeId) (x : Operand) (f : Nat) (C : Ctx) (d : Nat) (env : T AV) (s : St) : Option (AV × St) :=
  match aEval d env x with
  | some v => pureSt s (aField C.P t v f)
  | none => none

def sIndexAddr (t : TypeId) (x : Operand) (i : Operand) (C : Ctx) (d : Nat) (env : T AV) (s : St) : Option (AV × St) :=
  match aEval d env x with
  | some v => match aEval d env i with
    | some z => pureSt s (aIndexAddr C.P t v z)
    | none => none
  | none => none

def sIndex (t : TypeId) (x : Operand) (i : Operand) (C : Ctx) (d : Nat) (env : T AV) (s : St) : Option (AV × St) :=
  match aEval d env x with
  | some v => match aEval d env i with
    | some z => pureSt s (aIndex C.P t v z)
    | none => none
  | none => none

def sLookup (t : TypeId) (x : Operand) (i : Operand) (ok : Bool) (C : Ctx) (d : Nat) (env : T AV) (s : St) : Option (AV × St) :=
  match aEval d env x with
  | some v => match aEval d env i with
    | some z => pureSt s (aLookup C.P t s v z ok)
    | none => none
  | none => none

def sMapUpdate (t : TypeId) (m : Operand) (k : Operand) (x : Operand) (C : Ctx) (d : Nat) (env : T AV) (s : St) : Option (AV × St) :=
  match aEval d env m with
  | some v => match aEval d env k with
    | some z => match aEval d env x with
      | some q => unitSt (aMapUpdate C.P t s v z q)
      | none => none
    | none => none
  | none => none

def sMapEntry (t : TypeId) (m : Operand) (k : Operand) (C : Ctx) (d : Nat) (env : T AV) (s : St) : Option (AV × St) :=
  match aEval d env m with
  | some v => match aEval d env k with
    | some z => aMapEntry C.P t s v z
    | none => none
  | none => none

def sEntryStore (t : TypeId) (m : Operand) (k : Operand) (x : Operand) (C : Ctx) (d : Nat) (env : T AV) (s : St) : Option (AV × St) :=
  match aEval d env m with
  | some v => match aEval d env k with
    | some z => match aEval d env x with
      | some q => unitSt (aEntryStore s v z q)
      | none => none
    | none => none
  | none => none

def sRange (t : TypeId) (x : Operand) (C : Ctx) (d : Nat) (env : T AV) (s : St) : Option (AV × St) :=
  match aEval d env x with
  | some v => newSt s (aRange C.P t s v) (.ptr s.next 0)
  | none => none

def sEntry (x : Operand) (C : Ctx) (d : Nat) (env : T AV) (s : St) : Option (AV × St) :=
  match aEval d env x with
  | some v => pureSt s (aEntry s v)
  | none => none

def sExtract (x : Operand) (i : Nat) (C : Ctx) (d : Nat) (env : T AV) (s : St) : Option (AV × St) :=
  match aEval d env x with
  | some v => pureSt s (aExtract v i)
  | none => none

def sCall (c : Call) (C : Ctx) (d : Nat) (env : T AV) (s : St) : Option (AV × St) :=
  match c.callee with
  | .builtin b => match aEvals d env c.args.toList with
    | some as => aBuiltin C.P b c.argTypes as s
    | none => none
  | .value f => match aEval d env f with
    | some fv => match aEvals d env c.args.toList with
      | some as => aCallFn C fv as s
      | none => none
    | none => none
  | .invoke _ _ => none

/-- One operation (no defer). -/
def stepOf (op : Op) : Ctx → Nat → T AV → St → Option (AV × St) :=
  match op with
  | .move x => sMove x
  | .assign x => sMove x
  | .pick c a b => sPick c a b
  | .alloc t => sAlloc t
  | .box t x => sBox t x
  | .build t parts => sBuild t parts
  | .buildSlice t len parts => sBuildSlice t len parts
  | .load t x => sLoad t x
  | .store t x y => sStore t x y
  | .nilCheck x => sNilCheck x
  | .binOp op t x y _ => sBinOp op t x y
  | .unOp op _ x => sUnOp op x
  | .convert src dst x => sConvert src dst x
  | .makeInterface t x => sMakeInterface t x
  | .makeFunc fn first cap => sMakeFunc fn first cap
  | .makeMap t none => sMakeMap t
  | .makeSlice t l c => sMakeSlice t l c
  | .slice t x lo hi none => sSlice t x lo hi
  | .slice t x lo (some hi) (some mx) => sSlice3 t x lo hi mx
  | .fieldAddr t x f => sFieldAddr t x f
  | .field t x f => sField t x f
  | .indexAddr t x i => sIndexAddr t x i
  | .index t x i => sIndex t x i
  | .lookup t x i ok => sLookup t x i ok
  | .mapUpdate t m k x => sMapUpdate t m k x
  | .mapEntry t m k => sMapEntry t m k
  | .entryStore t m k x => sEntryStore t m k x
  | .range t x => sRange t x
  | .entry x => sEntry x
  | .extract x i => sExtract x i
  | .call c => sCall c
  | _ => fun _ _ _ _ => none

def aStep (C : Ctx) (d : Nat) (env : T AV) (s : St) (op : Op) : Option (AV × St) := stepOf op C d env s

/-- A frame: its slots, and the calls that are put off. -/
structure Fr where
  env : T AV
  dfs : List (AV × List AV)

def put (d : Nat) (env : T AV) (dst : Option Tmp) (v : AV) : T AV :=
  match dst with
  | some t => T.set (path d t) env (.v v)
  | none => env

/-- What a guard says. -/
def aYield (d : Nat) (env : T AV) (ops : Array Oper) (j : Nat) : Option Bool :=
  match (ops[j]?).bind (·.dst) with
  | some t => match eget d env t with
    | .bool b => some b
    | _ => none
  | none => none

def aWanted (d : Nat) (env : T AV) (ops : Array Oper) (o : Oper) : Bool :=
  match o.guard with
  | none => true
  | some (j, want) => aYield d env ops j == some want

/-- A defer. -/
def aDefer (d : Nat) (env : T AV) (c : Call) : Option (AV × List AV) :=
  match c.callee with
  | .value f => match aEval d env f with
    | some (.func fn first cap) => match aEvals d env c.args.toList with
      | some as => some (.func fn first cap, as)
      | none => none
    | _ => none
  | _ => none

/-- What is but moved is reckoned already. -/
def forceOp {β : Type} (op : Op) (v : AV) (k : AV → β) : β := match op with
  | .move _ => k v
  | .assign _ => k v
  | _ => v.force k
theorem forceOp_eq {β : Type} (op : Op) (v : AV) (k : AV → β) : forceOp op v k = k v := by
  unfold forceOp; split <;> first | rfl | exact AV.force_eq _ _

/-- The operations of a region, one after another. -/
def aOps (C : Ctx) (d : Nat) (ops : Array Oper) : List Oper → Fr → St → Option (Fr × St)
  | [], fr, s => some (fr, s)
  | o :: l, fr, s =>
    match aWanted d fr.env ops o with
    | false => aOps C d ops l ⟨put d fr.env o.dst .undef, fr.dfs⟩ s
    | true => match o.op with
      | .defer c => match aDefer d fr.env c with
        | some x => aOps C d ops l ⟨put d fr.env o.dst .undef, x :: fr.dfs⟩ s
        | none => none
      | op => match aStep C d fr.env s op with
        | some (v, s') => forceOp op v fun v => s'.force fun s' => (put d fr.env o.dst v).force fun env => aOps C d ops l ⟨env, fr.dfs⟩ s'
        | none => none

inductive AExit where
  | normal
  | exit (id : Nat)
  | ret

/-- A drawn region: by another function. -/
structure Env where
  C : Ctx
  d : Nat
  n : Nat
  drawn : Array Oper → Fr → St → Option (Fr × St)

/-- The slots that a region writes are the function's. -/
def regOk (n : Nat) (ops : Array Oper) : Bool := ops.toList.all fun o => match o.dst with | some t => Nat.blt t n | none => true

/-- Code. -/
def exec (E : Env) : Nat → Code → Fr → St → Option (AExit × Fr × St)
  | 0, _, _, _ => none
  | n + 1, c, fr, s => match c with
    | .skip => some (.normal, fr, s)
    | .label _ => some (.normal, fr, s)
    | .region _ ops false => match regOk E.n ops with
      | true => match aOps E.C E.d ops ops.toList fr s with
        | some (fr, s) => some (.normal, fr, s)
        | none => none
      | false => none
    | .region _ ops true => match regOk E.n ops with
      | true => match E.drawn ops fr s with
        | some (fr, s) => some (.normal, fr, s)
        | none => none
      | false => none
    | .seq a b => match exec E n a fr s with
      | some (.normal, fr, s) => exec E n b fr s
      | r => r
    | .cond x a b => match aEval E.d fr.env x with
      | some (.bool true) => exec E n a fr s
      | some (.bool false) => exec E n b fr s
      | _ => none
    | .block id b => match exec E n b fr s with
      | some (.exit j, fr, s) => match Nat.beq j id with
        | true => some (.normal, fr, s)
        | false => some (.exit j, fr, s)
      | r => r
    | .loop b => match exec E n b fr s with
      | some (.normal, fr, s) => exec E n (.loop b) fr s
      | r => r
    | .exit id => some (.exit id, fr, s)
    | .scope b => exec E n b fr s
    | .ret => some (.ret, fr, s)
    | _ => none

/-- What a function gives back. -/
def aResult (P : Program) (d : Nat) (env : T AV) (s : St) : List ResultVar → Option (List AV)
  | [] => some []
  | .tmp t :: l => match aResult P d env s l with
    | some m => if Nat.blt t (2 ^ d) = true then some (eget d env t :: m) else none
    | none => none
  | .cell t ty :: l => match aResult P d env s l with
    | some m => if Nat.blt t (2 ^ d) = true then (match aLoad P ty s (eget d env t) with
      | some v => some (v :: m)
      | none => none) else none
    | none => none

def tupled (l : List AV) : AV := match l with | [v] => v | l => .tup l

/-- The slots of a call. -/
def enter (d : Nat) : List AV → Nat → T AV → T AV
  | [], _, env => env
  | v :: l, i, env => enter d l (i + 1) (T.set (path d i) env (.v v))

def depthOf (n : Nat) : Nat := if n ≤ 4 then 2 else if n ≤ 8 then 3 else if n ≤ 16 then 4 else if n ≤ 32 then 5 else if n ≤ 64 then 6 else if n ≤ 128 then 7 else if n ≤ 256 then 8 else 10

/-- The calls that were put off. -/
def aDefers (C : Ctx) : List (AV × List AV) → St → Option St
  | [], s => some s
  | (f, as) :: l, s => match f with
    | .func (.func g) first cap => match C.dcall g (first ++ as ++ cap) s with
      | some (_, s') => aDefers C l s'
      | none => none
    | _ => none

/-- A function's code, run; 'plain': without calls that were put off. -/
def aBody (C : Ctx) (dr : Ctx → Nat → Nat → Array Oper → Fr → St → Option (Fr × St)) (fuel : Nat) (plain : Bool) (f : Nat) (args : List AV) (s : St) : Option (AV × St) :=
  match C.P.funcs[f]? with
  | some fn => match fn.body with
    | some c => match Nat.ble args.length fn.ntmps && Nat.ble fn.ntmps (2 ^ depthOf fn.ntmps) with
      | true => match exec ⟨C, depthOf fn.ntmps, fn.ntmps, dr C (depthOf fn.ntmps) fn.ntmps⟩ fuel c ⟨enter (depthOf fn.ntmps) args 0 .e, []⟩ s with
        | some (.exit _, _, _) => none
        | some (_, fr, s) => match (match plain with | true => fr.dfs.isEmpty | false => true) with
          | true => match aDefers C fr.dfs s with
            | some s => match aResult C.P (depthOf fn.ntmps) fr.env s fn.results.toList with
              | some l => some (tupled l, s)
              | none => none
            | none => none
          | false => none
        | none => none
      | false => none
    | none => none
  | none => none

/-- A call: by what is known already, or by its code. -/
def aCall (P : Program) (ext : Nat → Option (List AV → St → Option (AV × St))) (known : Nat → Option (List AV → St → Option (AV × St))) (dr : Ctx → Nat → Nat → Array Oper → Fr → St → Option (Fr × St)) (fuel : Nat) :
    Nat → Bool → Nat → List AV → St → Option (AV × St)
  | 0, _, _, _, _ => none
  | n + 1, plain, f, args, s =>
    match plain with
    | true => aBody ⟨P, aCall P ext known dr fuel n false, aCall P ext known dr fuel n true, ext⟩ dr fuel true f args s
    | false => match known f with
      | some k => k args s
      | none => aBody ⟨P, aCall P ext known dr fuel n false, aCall P ext known dr fuel n true, ext⟩ dr fuel false f args s
end
end Go.X
