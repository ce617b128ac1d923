/- The engine, part 11: regions whose order is drawn: a head of operations that change nothing, in whatever order, and a tail in its own order. -/
import Derived.Test.YtlfdmdhkbillpaaDoorEng10
import Derived.StillTail
namespace Go.Eng
open Go

variable {P : Program} {W : World}

def quietB : Op → Bool
  | .move _ => true | .assign _ => true | .pick .. => true | .build .. => true | .load .. => true | .nilCheck _ => true | .binOp .. => true | .unOp .. => true | .convert .. => true
  | .makeInterface .. => true | .makeFunc .. => true | .slice .. => true | .fieldAddr .. => true | .field .. => true | .indexAddr .. => true | .index .. => true | .extract .. => true | .lookup .. => true
  | .call c => match c.callee with
    | .builtin .len => true
    | .builtin .min => true
    | .builtin .max => true
    | .builtin .unsafeSliceData => true
    | _ => false
  | _ => false

/-- One value, whatever is asked of it. -/
def Det (F : (PV → Mem → Prop) → Prop) (σ : Mem) (k : PV → Mem → Prop) : Prop := ∃ pv, k pv σ ∧ ∀ k', k' pv σ → F k'
def Det1 (F : (PV → Prop) → Prop) (k : PV → Prop) : Prop := ∃ pv, k pv ∧ ∀ k', k' pv → F k'

theorem Det1.up {F : (PV → Prop) → Prop} {σ : Mem} {k : PV → Mem → Prop} (h : Det1 F fun v => k v σ) : Det (fun k => F fun v => k v σ) σ k :=
  let ⟨pv, h1, h2⟩ := h
  ⟨pv, h1, fun _ hk => h2 _ hk⟩
theorem Det1.chk {b : Bool} {F : (PV → Prop) → Prop} {k : PV → Prop} (hb : b = true) (h : Det1 F k) : Det1 (fun k => chk b (F k)) k :=
  let ⟨pv, h1, h2⟩ := h
  ⟨pv, h1, fun k' hk => by rw [hb]; exact h2 _ hk⟩
theorem Det1.need {c : Prop} {F : (PV → Prop) → Prop} {k : PV → Prop} (hc : c) (h : Det1 F k) : Det1 (fun k => need c (F k)) k :=
  let ⟨pv, h1, h2⟩ := h
  ⟨pv, h1, fun _ hk => ⟨hc, h2 _ hk⟩⟩
theorem Det1.pt (x : PV) {k : PV → Prop} (h : k x) : Det1 (fun k => k x) k := ⟨x, h, fun _ h => h⟩

theorem inV_det {ik : IntKind} {n : Int} {k : PV → Prop} (h : inV ik n k) : Det1 (inV ik n) k :=
  ⟨_, inV_spec h, fun _ hk => inV_mk hk⟩

theorem binV_det {t : TypeId} {op : BinOp} {x y : PV} {k : PV → Prop} (h : binV P t op x y k) : Det1 (binV P t op x y) k := by
  unfold binV at h
  split at h
  · split at h
    · exact ⟨_, h.2, fun k' hk => ⟨h.1, hk⟩⟩
    · exact ⟨_, h.2, fun k' hk => ⟨h.1, hk⟩⟩
    · split at h
      · exact h.elim
      · rename_i n1 n2 he
        split at h <;> first
          | exact h.elim
          | exact ⟨_, h, fun k' hk => by simp only [binV, he]; exact hk⟩
          | exact ⟨_, h.2, fun k' hk => by simp only [binV, he]; exact ⟨h.1, hk⟩⟩
          | exact ⟨_, inV_spec h, fun k' hk => by simp only [binV, he]; exact inV_mk hk⟩
          | exact ⟨_, inV_spec h.2, fun k' hk => by simp only [binV, he]; exact ⟨h.1, inV_mk hk⟩⟩
  · split at h <;> first
      | exact h.elim
      | exact ⟨_, h, fun k' hk => hk⟩
      | exact ⟨_, h.2, fun k' hk => ⟨h.1, hk⟩⟩
  · split at h
    · rename_i he
      split at h <;> first
        | exact h.elim
        | exact ⟨_, h, fun k' hk => by simp only [binV, he]; exact hk⟩
    · exact h.elim
  · exact h.elim
theorem unV_det {op : UnOp} {x : PV} {k : PV → Prop} (h : unV op x k) : Det1 (unV op x) k := by
  unfold unV at h
  split at h <;> first
    | exact h.elim
    | exact ⟨_, h, fun k' hk => hk⟩
    | exact ⟨_, inV_spec h, fun k' hk => inV_mk hk⟩
theorem convV_det {s d : TypeId} {x : PV} {k : PV → Prop} (h : convV P s d x k) : Det1 (convV P s d x) k := by
  unfold convV at h
  split at h
  case h_2 => exact h.elim
  rename_i s' d' hs hd
  have e : ∀ k, convV P s d x k = _ := fun k => by unfold convV; rw [hs, hd]
  cases x <;> simp only at h <;> (try exact h.elim)
  case int ik n =>
    cases d' <;> simp only at h <;> first
      | exact h.elim
      | exact ⟨_, h, fun k' hk => by rw [e]; exact hk⟩
      | exact ⟨_, inV_spec h, fun k' hk => by rw [e]; exact inV_mk hk⟩
  case str l =>
    cases d' <;> simp only at h <;> first
      | exact h.elim
      | exact ⟨_, h, fun k' hk => by rw [e]; exact hk⟩
  case sl sz es =>
    split at h
    case h_2 => exact h.elim
    rename_i e'
    split at h
    case h_2 => exact h.elim
    rename_i he
    obtain ⟨hc, ns, h1, h2⟩ := chk_spec h
    exact ⟨_, h2, fun k' hk => by rw [e]; simp only [he]; rw [hc]; exact ⟨ns, h1, hk⟩⟩
  case nils =>
    split at h
    case h_2 => exact h.elim
    rename_i e'
    split at h
    case h_2 => exact h.elim
    rename_i he
    exact ⟨_, h, fun k' hk => by rw [e]; simp only [he]; exact hk⟩
  case tpt =>
    split at h
    · obtain ⟨hc, h⟩ := chk_spec h
      exact ⟨_, h, fun k' hk => by rw [e]; simp only; rw [hc]; exact hk⟩
    · obtain ⟨hc, h⟩ := chk_spec h
      exact ⟨_, h, fun k' hk => by rw [e]; simp only; rw [hc]; exact hk⟩
    · exact h.elim
theorem loadV_det {t : TypeId} {x : PV} {σ : Mem} {k : PV → Prop} (h : loadV P t x σ k) : Det1 (loadV P t x σ) k := by
  cases x <;> (try exact h.elim)
  case bref b f =>
    obtain ⟨sz, es, fz, r, hl, h⟩ := h
    split at h
    case h_2 => exact h.elim
    rename_i e
    obtain ⟨hc, hk⟩ := chk_spec h
    exact ⟨_, hk, fun k' hk' => ⟨sz, _, fz, r, hl, by simp only []; rw [hc]; exact hk'⟩⟩
  case ref b sz i f =>
    obtain ⟨sz', es, fz, r, hl, h⟩ := h
    obtain ⟨hc, hn, hk⟩ := chk_spec h
    exact ⟨_, hk.all _ (getD_some hn), fun k' hk' => ⟨sz', _, fz, r, hl, by show chk _ _; rw [hc]; exact ⟨hn, ⟨fun e he => by rw [getD_some hn] at he; cases he; exact hk'⟩⟩⟩⟩
  case ip e f =>
    obtain ⟨hc, hk⟩ := chk_spec h
    exact ⟨_, hk, fun k' hk' => by show chk _ _; rw [hc]; exact hk'⟩
theorem fieldAddrV_det {s : TypeId} {x : PV} {f : Nat} {k : PV → Prop} (h : fieldAddrV P s x f k) : Det1 (fieldAddrV P s x f) k := by
  unfold fieldAddrV at h
  split at h
  case h_2 => exact h.elim
  rename_i fd hf
  have e : ∀ k, fieldAddrV P s x f k = _ := fun k => by unfold fieldAddrV; rw [hf]
  cases x <;> simp only at h <;> (try exact h.elim) <;>
    (obtain ⟨hc, hk⟩ := chk_spec h; exact ⟨_, hk, fun k' hk' => by rw [e]; show chk _ _; rw [hc]; exact hk'⟩)
theorem fieldV_det {s : TypeId} {x : PV} {f : Nat} {k : PV → Prop} (h : fieldV P s x f k) : Det1 (fieldV P s x f) k := by
  unfold fieldV at h
  split at h
  case h_2 => exact h.elim
  rename_i fd hf
  have e : ∀ k, fieldV P s x f k = _ := fun k => by unfold fieldV; rw [hf]
  cases x <;> simp only at h <;> (try exact h.elim) <;>
    (obtain ⟨hc, hk⟩ := chk_spec h; exact ⟨_, hk, fun k' hk' => by rw [e]; show chk _ _; rw [hc]; exact hk'⟩)
theorem indexAddrV_det {t : TypeId} {x i : PV} {k : PV → Prop} (h : indexAddrV P t x i k) : Det1 (indexAddrV P t x i) k := by
  cases i <;> (try exact h.elim)
  rename_i ik n
  simp only [indexAddrV] at h
  split at h
  · rename_i e0 he
    have e : ∀ k, indexAddrV P t x (.int ik n) k = _ := fun k => by unfold indexAddrV; simp only; rw [he]
    cases x <;> simp only at h <;> (try exact h.elim)
    case sl sz es =>
      obtain ⟨hc, hn, hk⟩ := chk_spec h
      obtain ⟨q, rfl⟩ : ∃ q : Nat, n = q := ⟨n.toNat, by omega⟩
      have hq : q < es.length := by omega
      exact ⟨_, (hk.all q rfl).all _ (getD_some hq), fun k' hk' => by
        rw [e]; show chk _ _; rw [hc]; refine ⟨hn, ⟨fun q' hq' => ⟨fun e' he' => ?_⟩⟩⟩
        obtain rfl : q = q' := by omega
        rw [getD_some hq] at he'; cases he'; exact hk'⟩
    case rsl b sz j m =>
      obtain ⟨hc, hn, hk⟩ := chk_spec h
      obtain ⟨q, rfl⟩ : ∃ q : Nat, n = q := ⟨n.toNat, by omega⟩
      exact ⟨_, hk.all q rfl, fun k' hk' => by
        rw [e]; show chk _ _; rw [hc]; refine ⟨hn, ⟨fun q' hq' => ?_⟩⟩
        obtain rfl : q = q' := by omega
        exact hk'⟩
  · rename_i m e0 he
    have e : ∀ k, indexAddrV P t x (.int ik n) k = _ := fun k => by unfold indexAddrV; simp only; rw [he]
    cases x <;> simp only at h <;> (try exact h.elim) <;>
      (obtain ⟨hc, hn, hk⟩ := chk_spec h; exact ⟨_, hk, fun k' hk' => by rw [e]; show chk _ _; rw [hc]; exact ⟨hn, hk'⟩⟩)
  · exact h.elim
theorem indexV_det {t : TypeId} {x i : PV} {k : PV → Prop} (h : indexV P t x i k) : Det1 (indexV P t x i) k := by
  cases i <;> (try exact h.elim)
  rename_i ik n
  cases x <;> (try exact h.elim)
  case str s =>
    simp only [indexV] at h
    split at h
    case h_2 => exact h.elim
    rename_i he
    obtain ⟨hn, hk⟩ := h
    obtain ⟨q, rfl⟩ : ∃ q : Nat, n = q := ⟨n.toNat, by omega⟩
    have hq : s[q]? = some (s[q]'(by omega)) := List.getElem?_eq_getElem _
    exact ⟨_, (hk.all q rfl).all _ hq, fun k' hk' => by
      unfold indexV; simp only; rw [he]
      refine ⟨hn, ⟨fun q' hq' => ⟨fun c hc => ?_⟩⟩⟩
      obtain rfl : q = q' := by omega
      rw [hq] at hc; cases hc; exact hk'⟩
  case agg cs =>
    simp only [indexV] at h
    split at h
    case h_2 => exact h.elim
    rename_i m e he
    obtain ⟨hc, hn, hk⟩ := chk_spec h
    exact ⟨_, hk, fun k' hk' => by unfold indexV; simp only; rw [he]; show chk _ _; rw [hc]; exact ⟨hn, hk'⟩⟩
theorem boundsV_mono {lo hi mx : Option PV} {n : Nat} {F G : Nat → Nat → Prop} (hfg : ∀ l m, F l m → G l m) (h : boundsV lo hi mx n F) : boundsV lo hi mx n G := by
  unfold boundsV at h ⊢
  split at h
  case h_2 => exact h.elim
  unfold boundsT at h ⊢
  split at h
  · exact ⟨h.1, ⟨fun p hp => ⟨fun q hq => hfg _ _ ((h.2.all p hp).all q hq)⟩⟩⟩
  · split at h
    · exact ⟨h.1, ⟨fun p hp => ⟨fun q hq => hfg _ _ ((h.2.all p hp).all q hq)⟩⟩⟩
    · exact h.elim
  · exact h.elim
theorem boundsV_det {lo hi mx : Option PV} {n : Nat} {F : Nat → Nat → PV} {k : PV → Prop} (h : boundsV lo hi mx n fun l m => k (F l m)) : Det1 (fun k => boundsV lo hi mx n fun l m => k (F l m)) k := by
  unfold boundsV at h
  split at h
  case h_2 => exact h.elim
  rename_i k1 l k2 hh e1 e2
  have e : ∀ G, boundsV lo hi mx n G = boundsT hi mx n l hh G := fun G => by unfold boundsV; rw [e1, e2]
  have : Det1 (fun k => boundsT hi mx n l hh fun l m => k (F l m)) k := by
    unfold boundsT at h
    split at h
    · obtain ⟨hn, hk⟩ := h
      exact ⟨_, (hk.all l.toNat (by omega)).all hh.toNat (by omega), fun k' hk' => ⟨hn, ⟨fun p hp => ⟨fun q hq => by
        obtain rfl : p = l.toNat := by omega
        obtain rfl : q = hh.toNat := by omega
        exact hk'⟩⟩⟩⟩
    · split at h
      · obtain ⟨hn, hk⟩ := h
        exact ⟨_, (hk.all l.toNat (by omega)).all hh.toNat (by omega), fun k' hk' => ⟨hn, ⟨fun p hp => ⟨fun q hq => by
          obtain rfl : p = l.toNat := by omega
          obtain rfl : q = hh.toNat := by omega
          exact hk'⟩⟩⟩⟩
      · exact h.elim
    · exact h.elim
  obtain ⟨pv, h1, h2⟩ := this
  exact ⟨pv, h1, fun k' hk => by show boundsV lo hi mx n _; rw [e]; exact h2 _ hk⟩
theorem sliceV_det {t : TypeId} {x : PV} {lo hi mx : Option PV} {k : PV → Prop} (h : sliceV P t x lo hi mx k) : Det1 (sliceV P t x lo hi mx) k := by
  simp only [sliceV] at h
  split at h
  · rename_i he
    split at h
    case h_2 => exact h.elim
    rename_i sx
    have h' : boundsV lo hi none sx.length fun l m => k (.str ((sx.take m).drop l)) := boundsV_mono (fun l m hk => hk.all _ rfl) h
    obtain ⟨pv, h1, h2⟩ := boundsV_det (F := fun l m => .str _) h'
    exact ⟨pv, h1, fun k' hk => by simp only [sliceV, he]; exact boundsV_mono (fun l m hk => ⟨fun s' hs => by subst hs; exact hk⟩) (h2 _ hk)⟩
  · rename_i e he
    cases x <;> simp only at h <;> (try exact h.elim)
    case sl sz es =>
      obtain ⟨hc, h⟩ := chk_spec h
      have h' : boundsV lo hi mx es.length fun l m => k (.sl sz ((es.take m).drop l)) := boundsV_mono (fun l m hk => hk.all _ rfl) h
      obtain ⟨pv, h1, h2⟩ := boundsV_det (F := fun l m => .sl _ _) h'
      exact ⟨pv, h1, fun k' hk => by simp only [sliceV, he]; rw [hc]; exact boundsV_mono (fun l m hk => ⟨fun s' hs => by subst hs; exact hk⟩) (h2 _ hk)⟩
    case rsl b sz i n =>
      obtain ⟨hc, h⟩ := chk_spec h
      obtain ⟨pv, h1, h2⟩ := boundsV_det (F := fun l m => .rsl _ _ _ _) h
      exact ⟨pv, h1, fun k' hk => by simp only [sliceV, he]; rw [hc]; exact h2 _ hk⟩
    case nils =>
      obtain ⟨hc, h⟩ := chk_spec h
      obtain ⟨pv, h1, h2⟩ := boundsV_det (F := fun _ _ => .nils) h
      exact ⟨pv, h1, fun k' hk => by simp only [sliceV, he]; rw [hc]; exact h2 _ hk⟩
  · exact h.elim

theorem len_det {ts : Array TypeId} {l : List PV} {σ : Mem} {k : PV → Mem → Prop} (h : builtinV P .len ts l σ k) : Det (builtinV P .len ts l σ) σ k := by
  rcases l with _ | ⟨x, _ | ⟨y, r⟩⟩
  · exact h.elim
  · simp only [builtinV] at h
    split at h
    case h_2 => exact h.elim
    rename_i t ht
    split at h
    · rename_i he
      exact ⟨_, h, fun k' hk => by simp only [builtinV, ht, he]; exact hk⟩
    · rename_i he
      cases x <;> simp only at h <;> first
        | exact h.elim
        | exact ⟨_, h, fun k' hk => by simp only [builtinV, ht, he]; exact hk⟩
    · rename_i he
      cases x <;> simp only at h <;> first
        | exact h.elim
        | exact ⟨_, h, fun k' hk => by simp only [builtinV, ht, he]; exact hk⟩
    · exact h.elim
  · exact h.elim
theorem min_det {ts : Array TypeId} {l : List PV} {σ : Mem} {k : PV → Mem → Prop} (h : builtinV P .min ts l σ k) : Det (builtinV P .min ts l σ) σ k := by
  rcases l with _ | ⟨x, r⟩
  · exact h.elim
  · cases x <;> simp only [builtinV] at h <;> (try exact h.elim)
    split at h
    case h_2 => exact h.elim
    rename_i hv
    exact ⟨_, h, fun k' hk => by simp only [builtinV, hv]; exact hk⟩
theorem max_det {ts : Array TypeId} {l : List PV} {σ : Mem} {k : PV → Mem → Prop} (h : builtinV P .max ts l σ k) : Det (builtinV P .max ts l σ) σ k := by
  rcases l with _ | ⟨x, r⟩
  · exact h.elim
  · cases x <;> simp only [builtinV] at h <;> (try exact h.elim)
    split at h
    case h_2 => exact h.elim
    rename_i hv
    exact ⟨_, h, fun k' hk => by simp only [builtinV, hv]; exact hk⟩

theorem data_det {ts : Array TypeId} {l : List PV} {σ : Mem} {k : PV → Mem → Prop} (h : builtinV P .unsafeSliceData ts l σ k) : Det (builtinV P .unsafeSliceData ts l σ) σ k := by
  rcases l with _ | ⟨x, _ | ⟨y, r⟩⟩
  · exact h.elim
  · simp only [builtinV] at h
    cases x <;> simp only at h <;> first
      | exact h.elim
      | exact ⟨_, h, fun k' hk => by simp only [builtinV]; exact hk⟩
      | (obtain ⟨hn, h⟩ := h; exact ⟨_, h, fun k' hk => by simp only [builtinV]; exact ⟨hn, hk⟩⟩)
  · exact h.elim
theorem pickV_det {t : Bool} {a b : PV} {k : PV → Prop} (h : pickV t a b k) : Det1 (pickV t a b) k := by
  unfold pickV at h
  split at h
  · split at h <;> try exact h.elim
    split at h <;> try exact h.elim
    obtain ⟨hn, h⟩ := h
    split at h <;> exact ⟨_, h, fun k' hk => ⟨hn, hk⟩⟩
  · split at h <;> try exact h.elim
    obtain ⟨hn, h⟩ := h
    exact ⟨_, h, fun k' hk => ⟨hn, hk⟩⟩
  · rename_i ha ha'
    split at h
    · split at h <;> try exact h.elim
      split at h <;> try exact h.elim
      obtain ⟨hn, h⟩ := h
      split at h <;> exact ⟨_, h, fun k' hk => ⟨hn, hk⟩⟩
    · split at h <;> try exact h.elim
      obtain ⟨hn, h⟩ := h
      refine ⟨_, h, fun k' hk => ?_⟩
      unfold pickV
      split
      · exact absurd rfl (ha _ _)
      · exact absurd rfl (ha' _)
      · exact ⟨hn, hk⟩
    · rename_i hb hb'
      refine ⟨_, h, fun k' hk => ?_⟩
      unfold pickV
      split
      · exact absurd rfl (ha _ _)
      · exact absurd rfl (ha' _)
      · split
        · exact absurd rfl (hb _ _)
        · exact absurd rfl (hb' _)
        · exact hk
theorem opV_det {o : Op} {env : Env} {σ : Mem} {k : PV → Mem → Prop} (hq : quietB o = true) (h : opV P W o env σ k) : Det (opV P W o env σ) σ k := by
  cases o <;> simp only [quietB] at hq <;> (try (cases hq; done)) <;> simp only [opV] at h
  case move x => exact ⟨_, h, fun _ hk => hk⟩
  case assign x => exact ⟨_, h, fun _ hk => hk⟩
  case pick c x y =>
    split at h
    case h_2 => exact h.elim
    rename_i t ht
    obtain ⟨pv, h1, h2⟩ := pickV_det h
    exact ⟨pv, h1, fun k' hk => by simp only [opV, ht]; exact h2 _ hk⟩
  case build t ps =>
    simp only [buildV] at h
    split at h
    case h_2 => exact h.elim
    rename_i cs hcs
    exact ⟨_, h, fun k' hk => by simp only [opV, buildV, hcs]; exact hk⟩
  case load t x => exact (loadV_det h).up
  case nilCheck x =>
    split at h <;> first
      | exact h.elim
      | (rename_i hx; exact ⟨_, h, fun k' hk => by simp only [opV, hx]; exact hk⟩)
  case binOp op t x y yt =>
    split at h
    · rename_i hp
      obtain ⟨pv, h1, h2⟩ := binV_det h
      exact ⟨pv, h1, fun k' hk => by simp only [opV, hp]; exact h2 _ hk⟩
    · rename_i hp
      obtain ⟨r, h1, h2⟩ := h
      exact ⟨_, h2, fun k' hk => by simp only [opV, hp]; exact ⟨r, h1, hk⟩⟩
  case unOp op t x => exact (unV_det h).up
  case convert s d x => exact (convV_det h).up
  case makeInterface t x =>
    split at h
    · exact h.elim
    · rename_i d hni hd
      exact ⟨_, h, fun k' hk => by
        simp only [opV, hd]
        exact hk⟩
    · exact h.elim
  case makeFunc fn first cap =>
    cases fn <;> simp only at h <;> try (exact h.elim)
    split at h
    case h_2 => exact h.elim
    rename_i hf
    exact ⟨_, h, fun k' hk => by simp only [opV, hf]; exact hk⟩
  case slice t x lo hi mx => exact (sliceV_det h).up
  case fieldAddr s x f => exact (fieldAddrV_det h).up
  case field s x f => exact (fieldV_det h).up
  case indexAddr t x i => exact (indexAddrV_det h).up
  case index t x i => exact (indexV_det h).up
  case lookup t x i ok =>
    obtain ⟨r, h1, h2⟩ := h
    exact ⟨_, h2, fun k' hk => by simp only [opV]; exact ⟨r, h1, hk⟩⟩
  case extract x i =>
    split at h
    case h_2 => exact h.elim
    rename_i vs hx
    obtain ⟨hc, hk⟩ := chk_spec h
    exact ⟨_, hk, fun k' hk' => by simp only [opV, hx]; rw [hc]; exact hk'⟩
  case call c =>
    cases hc : c.callee <;> simp only [hc] at hq h <;> (try (cases hq; done))
    rename_i b
    have e : ∀ k, opV P W (.call c) env σ k = builtinV P b c.argTypes (c.args.toList.map (ev env)) σ k := fun k => by simp only [opV, hc]
    have : Det (builtinV P b c.argTypes (c.args.toList.map (ev env)) σ) σ k := by
      cases b <;> simp only at hq <;> (try (cases hq; done))
      case len => exact len_det h
      case min => exact min_det h
      case max => exact max_det h
      case unsafeSliceData => exact data_det h
    obtain ⟨pv, h1, h2⟩ := this
    exact ⟨pv, h1, fun k' hk => by rw [e]; exact h2 _ hk⟩

/-- One operation of a head: it yields a value and changes nothing. -/
def stepH (P : Program) (W : World) (o : Op) (env : Env) (σ : Mem) (k : PV → Prop) : Prop :=
  match quietB o with
  | true => opV P W o env σ fun v _ => k v
  | false =>
    match o with
    | .buildSlice t n ps => buildSliceV P t n (ps.toList.map fun p => (p.1, ev env p.2)) fun sz es => k (.sl sz es)
    | .call c => match c.callee with
      | .value f => match ev env f with
        | .fn g cap => ∃ r, Pure P W g (c.args.toList.map (ev env) ++ cap) r ∧ k r
        | _ => False
      | _ => False
    | _ => False
def headV (P : Program) (W : World) (ops : Array Oper) (σ : Mem) (Q : Env → Prop) : List Oper → Env → Prop
  | [], env => Q env
  | o :: r, env =>
    match o.guard with
    | none => stepH P W o.op env σ fun v => headV P W ops σ Q r (updO env o.dst v)
    | some (j, want) =>
      match guardV ops env j with
      | some x => match want with
        | true => @Bool.rec (fun _ => Prop) (headV P W ops σ Q r (updO env o.dst (.tup []))) (stepH P W o.op env σ fun v => headV P W ops σ Q r (updO env o.dst v)) x
        | false => @Bool.rec (fun _ => Prop) (stepH P W o.op env σ fun v => headV P W ops σ Q r (updO env o.dst v)) (headV P W ops σ Q r (updO env o.dst (.tup []))) x
      | none => chk (guardU ops env j) (headV P W ops σ Q r (updO env o.dst (.tup [])))

def stepF (P : Program) (W : World) (o : Op) (env : Env) (σ : Mem) (k : PV → Prop) : Prop :=
  match quietB o with
  | true => opF P W o env σ fun v _ => k v
  | false =>
    match o with
    | .buildSlice t n ps => partsF env ps.toList fun parts => buildSliceV P t n parts fun sz es => forceL es fun es => k (.sl sz es)
    | .call c => match c.callee with
      | .value f => match ev env f with
        | .fn g cap => argsF env c.args.toList fun as => forceL (as ++ cap) fun as => ∃ r, Pure P W g as r ∧ k r
        | _ => False
      | _ => False
    | _ => False
theorem stepF_eq (P : Program) (W : World) (o : Op) (env : Env) (σ : Mem) (k : PV → Prop) : stepF P W o env σ k = stepH P W o env σ k := by
  unfold stepF stepH
  cases quietB o with
  | true => exact opF_eq ..
  | false =>
    cases o <;> first
      | rfl
      | (simp only [partsF_eq, forceL_eq]; done)
      | (rename_i c; simp only [argsF_eq, forceL_eq])
def headStepF (P : Program) (W : World) (ops : Array Oper) (σ : Mem) (o : Oper) (rest : Env → Prop) (env : Env) : Prop :=
  match o.guard with
  | none => stepF P W o.op env σ fun v => forceV v fun v => putF env o.dst v fun env' => rest env'
  | some (j, want) =>
    match guardV ops env j with
    | some x => match want with
      | true => @Bool.rec (fun _ => Prop) (putF env o.dst (.tup []) fun env' => rest env') (stepF P W o.op env σ fun v => forceV v fun v => putF env o.dst v fun env' => rest env') x
      | false => @Bool.rec (fun _ => Prop) (stepF P W o.op env σ fun v => forceV v fun v => putF env o.dst v fun env' => rest env') (putF env o.dst (.tup []) fun env' => rest env') x
    | none => chk (guardU ops env j) (putF env o.dst (.tup []) fun env' => rest env')
def headF (P : Program) (W : World) (ops : Array Oper) (σ : Mem) (Q : Env → Prop) (l : List Oper) : Env → Prop :=
  @List.rec Oper (fun _ => Env → Prop) Q (fun o _ ih => headStepF P W ops σ o ih) l
theorem headF_eq (P : Program) (W : World) (ops : Array Oper) (σ : Mem) (Q : Env → Prop) : ∀ (l : List Oper) (env : Env), headF P W ops σ Q l env = headV P W ops σ Q l env
  | [], _ => rfl
  | o :: r, env => by
    have ih := headF_eq P W ops σ Q r
    show headStepF P W ops σ o (headF P W ops σ Q r) env = _
    simp only [headStepF, headV, forceV_eq, putF_eq, stepF_eq, ih]

/-- What a step of a head is good for: this value, whatever is asked of it. -/
def Yields (P : Program) (W : World) (o : Op) (env : Env) (σ : Mem) (pv : PV) : Prop := ∀ k : PV → Mem → Prop, k pv σ → opV P W o env σ k

theorem buildSliceV_det {t : TypeId} {n : Nat} {ps : List (Nat × PV)} {k : Nat → List PV → Prop} (h : buildSliceV P t n ps k) : ∃ sz es, k sz es ∧ ∀ k', k' sz es → buildSliceV P t n ps k' := by
  unfold buildSliceV at h
  split at h
  case h_2 => exact h.elim
  rename_i hs
  obtain ⟨hc, h⟩ := chk_spec h
  split at h
  case h_2 => exact h.elim
  rename_i es he
  exact ⟨_, _, h, fun k' hk => by unfold buildSliceV; rw [hs]; simp only [hc, he]; exact hk⟩

theorem stepH_yields {o : Op} {env : Env} {σ : Mem} {k : PV → Prop} (h : stepH P W o env σ k) : ∃ pv, k pv ∧ Yields P W o env σ pv := by
  unfold stepH at h
  split at h
  · rename_i hq
    obtain ⟨pv, h1, h2⟩ := opV_det hq h
    exact ⟨pv, h1, h2⟩
  · split at h
    · obtain ⟨sz, es, h1, h2⟩ := buildSliceV_det h
      exact ⟨_, h1, fun k' hk => by simp only [opV]; exact h2 _ (Or.inl hk)⟩
    · rename_i c
      split at h
      case h_2 => exact h.elim
      rename_i f hf
      split at h
      case h_2 => exact h.elim
      rename_i g cap hg
      obtain ⟨r, h1, h2⟩ := h
      exact ⟨r, h2, fun k' hk => by simp only [opV, hf, hg]; exact callV_of (h1.use hk)⟩
    · exact h.elim

/-- What the operations of a head have been shown to yield. -/
def envAt (env : Env) : List Oper → List PV → Env
  | o :: r, v :: vs => envAt (updO env o.dst v) r vs
  | _, _ => env
inductive Cert (P : Program) (W : World) (ops : Array Oper) (σ : Mem) : List Oper → Env → List PV → Prop
  | nil (env : Env) : Cert P W ops σ [] env []
  | run (o : Oper) (r : List Oper) (env : Env) (v : PV) (vs : List PV) (hg : o.guard = none ∨ ∃ j want, o.guard = some (j, want) ∧ guardV ops env j = some want) (hy : Yields P W o.op env σ v)
      (h : Cert P W ops σ r (updO env o.dst v) vs) : Cert P W ops σ (o :: r) env (v :: vs)
  | skip (o : Oper) (r : List Oper) (env : Env) (vs : List PV) (j : Nat) (want : Bool) (hg : o.guard = some (j, want)) (hv : guardV ops env j = some (!want) ∨ guardU ops env j = true)
      (h : Cert P W ops σ r (updO env o.dst (.tup [])) vs) : Cert P W ops σ (o :: r) env (.tup [] :: vs)

theorem headV_cert {ops : Array Oper} {σ : Mem} {Q : Env → Prop} : ∀ (l : List Oper) (env : Env), headV P W ops σ Q l env → ∃ vs, vs.length = l.length ∧ Cert P W ops σ l env vs ∧ Q (envAt env l vs)
  | [], env, h => ⟨[], rfl, .nil env, h⟩
  | o :: r, env, h => by
    have run : stepH P W o.op env σ (fun v => headV P W ops σ Q r (updO env o.dst v)) → (o.guard = none ∨ ∃ j want, o.guard = some (j, want) ∧ guardV ops env j = some want) →
        ∃ vs, vs.length = (o :: r).length ∧ Cert P W ops σ (o :: r) env vs ∧ Q (envAt env (o :: r) vs) := fun h hg => by
      obtain ⟨v, h1, h2⟩ := stepH_yields h
      obtain ⟨vs, h3, h4, h5⟩ := headV_cert r _ h1
      exact ⟨v :: vs, by simp [h3], .run o r env v vs hg h2 h4, h5⟩
    simp only [headV] at h
    split at h
    · rename_i hg; exact run h (.inl hg)
    · rename_i j want hg
      have skip : headV P W ops σ Q r (updO env o.dst (.tup [])) → (guardV ops env j = some (!want) ∨ guardU ops env j = true) → ∃ vs, vs.length = (o :: r).length ∧ Cert P W ops σ (o :: r) env vs ∧ Q (envAt env (o :: r) vs) := fun h he => by
        obtain ⟨vs, h3, h4, h5⟩ := headV_cert r _ h
        exact ⟨.tup [] :: vs, by simp [h3], .skip o r env vs j want hg he h4, h5⟩
      split at h
      case h_2 =>
        obtain ⟨hu, h⟩ := chk_spec h
        exact skip h (.inr hu)
      rename_i x hx
      replace skip := fun h (he : x = !want) => skip h (.inl (he ▸ hx))
      cases want <;> cases x
      · exact run h (.inr ⟨j, false, hg, hx⟩)
      · exact skip h rfl
      · exact skip h rfl
      · exact run h (.inr ⟨j, true, hg, hx⟩)
end Go.Eng
