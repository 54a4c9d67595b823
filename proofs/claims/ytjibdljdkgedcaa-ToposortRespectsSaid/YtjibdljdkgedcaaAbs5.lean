/-
  The abstract operations are sound, second part: stores, indexes, slices, aggregates, operators. No condition.
-/
import Derived.Test.YtjibdljdkgedcaaAbs4
set_option linter.unusedSimpArgs false
set_option linter.unusedVariables false
namespace Go.Proofs.Ytjibdljdkgedcaa.Abs
open Go.RowKit
variable {P : Program}

theorem splice_length {α : Type} : ∀ (vs cs : List α) (off : Nat), (splice cs off vs).length = cs.length
  | [], cs, off => rfl
  | v :: vs, cs, off => by rw [splice, splice_length vs]; simp
theorem splice_eq {α : Type} : ∀ (vs cs : List α) (off : Nat), off + vs.length ≤ cs.length → splice cs off vs = cs.take off ++ vs ++ cs.drop (off + vs.length)
  | [], cs, off, _ => by simp [splice]
  | v :: vs, cs, off, h => by
    simp only [List.length_cons] at h
    rw [splice, splice_eq vs _ _ (by simp; omega)]
    apply List.ext_getElem?
    intro j
    simp only [List.getElem?_append, List.getElem?_take, List.getElem?_set, List.getElem?_drop, List.length_append, List.length_take, List.length_set, List.length_cons, List.getElem?_cons]
    by_cases h1 : j < off
    · rw [if_pos (by omega), if_pos (by omega), if_pos (by omega), if_neg (by omega), if_pos (by omega), if_pos (by omega), if_pos (by omega)]
    · by_cases h2 : j = off
      · subst h2
        rw [if_pos (by omega), if_pos (by omega), if_pos (by omega), if_pos rfl, if_pos (by omega), if_pos (by omega), if_neg (by omega), if_pos (by omega)]
      · by_cases h3 : j < off + 1 + vs.length
        · rw [if_pos (by omega), if_neg (by omega), if_pos (by omega), if_neg (by omega), if_neg (by omega)]
          congr 1; omega
        · rw [if_neg (by omega), if_neg (by omega), if_neg (by omega)]
          congr 1; omega
theorem relAll_splice {s : RS} : ∀ {ds : List D} {us : List Value} {cs : List D} {vs : List Value} (off : Nat), relAll s ds us → relAll s cs vs → relAll s (splice cs off ds) (splice vs off us)
  | [], us, cs, vs, off, h, h' => by
    simp only [relAll] at h; subst h; exact h'
  | d :: ds, us, cs, vs, off, h, h' => by
    simp only [relAll] at h
    obtain ⟨v, r, rfl, h1, h2⟩ := h
    simp only [splice]
    exact relAll_splice (off + 1) h2 (relAll_set h' off h1)
theorem ones_set {vs : List Value} (h : ones vs) (n : Nat) {v : Value} (hv : v.oneCell' = true) : ones (vs.set n v) := by
  intro u hu
  rcases List.mem_or_eq_of_mem_set hu with h1 | h1
  · exact h u h1
  · subst h1; exact hv
theorem ones_splice : ∀ {us vs : List Value} (off : Nat), ones us → ones vs → ones (splice vs off us)
  | [], vs, off, _, h => h
  | u :: us, vs, off, h, h' => by
    simp only [splice]
    exact ones_splice (off + 1) (fun x hx => h x (List.mem_cons_of_mem _ hx)) (ones_set h' off (h u (by simp)))

theorem splice_prefix {A : List Value} {N off : Nat} {us : List Value} (h : off + us.length ≤ N) (hN : N ≤ A.length) :
    (A.take off ++ us ++ A.drop (off + us.length)).take N = splice (A.take N) off us := by
  rw [splice_eq _ _ _ (by simp; omega)]
  apply List.ext_getElem?
  intro j
  simp only [List.getElem?_append, List.getElem?_take, List.getElem?_drop, List.length_append, List.length_take]
  by_cases h0 : j < N
  · by_cases h1 : j < off
    · rw [if_pos h0, if_pos (by omega), if_pos (by omega), if_pos (by omega), if_pos (by omega), if_pos (by omega), if_pos (by omega), if_pos (by omega)]
    · by_cases h2 : j < off + us.length
      · rw [if_pos h0, if_pos (by omega), if_neg (by omega), if_pos (by omega), if_neg (by omega)]
        congr 1; omega
      · rw [if_pos h0, if_neg (by omega), if_neg (by omega), if_pos (by omega)]
        congr 1; omega
  · rw [if_neg h0, if_neg (by omega), if_neg (by omega)]

theorem run_storeAt {t : TypeId} {a : Addr} {u : Value} {w w' : World} (hi : ∃ i, P.info? t = some i) (hs : u.cells.size = sizeT P t) (hst : (storeCells a u.cells.toList 0).run P w = .ok () w') :
    (Instr.storeAt t (.pointer (some a)) u).run P w = .ok () w' := by
  obtain ⟨i, hi⟩ := hi
  simp [Instr.storeAt, Instr.sureAddr, storeVar, run_sizeOf hi, hs, hst]

theorem store_sound {s : RS} {w : World} (h : RH P s w) {t : TypeId} {p d : D} {v u : Value} {H : HM} (hd : storeD P s.H t p d = some H) (hp : rel s p v) (hv : rel s d u) :
    ∃ s' w', (Instr.storeAt t v u).run P w = .ok () w' ∧ Step s w s' w' ∧ RH P s' w' ∧ s'.H = H ∧ s'.nx = s.nx := by
  unfold storeD at hd
  cases hc : cellsD d with
  | none => rw [hc] at hd; cases hd
  | some ds =>
    rw [hc] at hd
    simp only at hd
    obtain ⟨hr, h1⟩ := rel_cells hv hc
    have hlen := relAll_length hr
    split at hd
    · rename_i hsz
      obtain ⟨hsz, hpos⟩ := hsz
      have hi : ∃ i, P.info? t = some i := info_of_size (by omega)
      have hus : u.cells.size = sizeT P t := by rw [← hsz, ← hlen]; simp
      split at hd
      · rename_i id off
        cases hid : s.H id with
        | none => rw [hid] at hd; cases hd
        | some o =>
          rw [hid] at hd
          cases o <;> first | (cases hd; done) | skip
          rename_i e cs
          simp only at hd
          split at hd
          · rename_i hle
            simp only [Option.some.injEq] at hd
            subst hd
            obtain ⟨b, vs, hk, hh, hrv, hov, _⟩ := box_cells h hid
            simp only [rel] at hp
            obtain ⟨hidn, _, hp⟩ := hp
            obtain ⟨b', hk', rfl⟩ := hp _ _ hid
            rw [hk] at hk'; cases hk'
            have hlv := relAll_length hrv
            have hst := run_storeCells_at P b off e u.cells.toList 0 vs.toArray w hh (by simp at hlen ⊢; omega) h1
            have hsp : vs.take (off + 0) ++ u.cells.toList ++ vs.drop (off + 0 + u.cells.toList.length) = splice vs off u.cells.toList := by
              rw [splice_eq _ _ _ (by omega)]; simp
            simp only at hst
            rw [hsp] at hst
            obtain ⟨hstep, hRH⟩ := set_obj (w' := w.setRow b (splice vs off u.cells.toList).toArray) h id (.box e cs) (.box e (splice cs off ds)) (s.κ id) hid rfl rfl rfl (by simp)
              (fun k _ hkb => setRow_other w b k _ (by intro e; subst e; rw [hk] at hkb; exact hkb rfl))
              (by simp [objLe]) (fun b' hb' => .inl hb')
              (fun hl => ⟨b, splice vs off u.cells.toList, hk, setRow_heap w b _ _ e _ hh, relAll.later hl _ _ (relAll_splice off hr hrv), ones_splice off h1 hov⟩)
            exact ⟨_, _, run_storeAt hi hus hst, hstep, hRH, rfl, rfl⟩
          · cases hd
      · rename_i id n off
        cases hid : s.H id with
        | none => rw [hid] at hd; cases hd
        | some o =>
          rw [hid] at hd
          cases o <;> first | (cases hd; done) | skip
          rename_i e k cs
          simp only at hd
          split at hd
          · rename_i hle
            obtain ⟨hnk, hle⟩ := hle
            subst hnk
            simp only [Option.some.injEq] at hd
            subst hd
            obtain ⟨vs, ho, hrv, hov, hcl, _⟩ := row_cells h hid
            simp only [rel] at hp
            obtain ⟨hidn, _, hp⟩ := hp
            obtain ⟨b, hk, rfl⟩ := (hp _ _ _ hid).2 rfl
            have hlv := relAll_length hrv
            rcases ho.2 with ⟨hv0, _⟩ | ⟨g, cap, cur, hv0, _, hh, hnc, hcm, hcs, ht⟩
            · rw [hv0] at hk; cases hk
            · rw [hv0] at hk; cases hk
              have hNle : n * sizeT P e ≤ cap * sizeT P e := Nat.mul_le_mul_right _ hnc
              have hst := run_storeCells_at P g off e u.cells.toList 0 cur w hh (by omega) h1
              obtain ⟨hstep, hRH⟩ := set_obj (w' := w.setRow g (cur.toList.take (off + 0) ++ u.cells.toList ++ cur.toList.drop (off + 0 + u.cells.toList.length)).toArray) h id (.row e n cs) (.row e n (splice cs off ds)) (s.κ id) hid rfl rfl rfl (by simp)
                (fun k _ hkb => setRow_other w g k _ (by intro e; subst e; rw [hv0] at hkb; exact hkb rfl))
                (by simp [objLe]) (fun b' hb' => .inl hb')
                (fun hl => ⟨splice vs off u.cells.toList, ⟨by rw [splice_length]; exact ho.1, .inr ⟨g, cap, _, hv0, Nat.zero_le _, setRow_heap w g _ _ e _ hh, hnc, hcm, by
                    simp only [List.size_toArray, List.length_append, List.length_take, List.length_drop, Array.length_toList]; omega, by
                    simp only [Nat.add_zero]
                    rw [splice_prefix (by omega) (by simp; omega), ht]⟩⟩,
                  relAll.later hl _ _ (relAll_splice off hr hrv), ones_splice off h1 hov⟩)
              exact ⟨_, _, run_storeAt hi hus hst, hstep, hRH, rfl, rfl⟩
          · cases hd
      · cases hd
    · cases hd

theorem idxD_some {els : List D} {i : Int} {d : D} (h : idxD els i = some d) : 0 ≤ i ∧ i < els.length ∧ els[i.toNat]? = some d := by
  unfold idxD at h
  split at h
  · rename_i hc; exact ⟨hc.1, hc.2, h⟩
  · cases h

theorem elemT_some {t e : TypeId} (h : elemT P t = some e) : P.underlying t = some (.slice e) := by
  unfold elemT at h
  split at h
  · cases h; assumption
  · cases h
theorem arrT_some {t e : TypeId} {n : Nat} (h : arrT P t = some (n, e)) : P.underlying t = some (.array n e) := by
  unfold arrT at h
  split at h
  · cases h; assumption
  · cases h

theorem strT_some {t : TypeId} (h : strT P t = true) : P.underlying t = some .string := by
  unfold strT at h
  split at h
  · assumption
  · cases h
theorem boolT_some {t : TypeId} (h : boolT P t = true) : P.underlying t = some .bool := by
  unfold boolT at h
  split at h
  · assumption
  · cases h
theorem mapT_some {t k e : TypeId} (h : mapT P t = some (k, e)) : P.underlying t = some (.map k e) := by
  unfold mapT at h
  split at h
  · cases h; assumption
  · cases h

theorem info_elem {t e : TypeId} (_h : P.underlying t = some (.slice e)) (h0 : sizeT P e ≠ 0) (w : World) : (sizeOf e).run P w = .ok (sizeT P e) w := by
  obtain ⟨i, hi⟩ := info_of_size h0
  exact run_sizeOf hi w

theorem rel_size_pos {s : RS} {d : D} {v : Value} {ds : List D} (h : rel s d v) (hc : cellsD d = some ds) : v.cells.size = ds.length := by
  have := relAll_length (rel_cells h hc).1
  simpa using this

theorem indexAddr_sound {s : RS} {w : World} (h : RH P s w) {t : TypeId} {x i d : D} {vx vi : Value} (hd : indexAddrD P s.H t x i = some d) (hx : rel s x vx) (hi : rel s i vi) :
    ∃ u, (Instr.indexAt t vx vi).run P w = .ok u w ∧ rel s d u := by
  unfold indexAddrD at hd
  cases he : elemT P t with
  | some e =>
    rw [he] at hd
    simp only at hd
    have hu := elemT_some he
    split at hd
    · rename_i nn sz els k i
      split at hd
      · rename_i hsz
        obtain ⟨rfl, h0⟩ := hsz
        simp only [Option.map_eq_some_iff] at hd
        obtain ⟨el, hel, rfl⟩ := hd
        obtain ⟨hi0, hil, hget⟩ := idxD_some hel
        simp only [rel] at hx hi
        subst hi
        rcases hx with ⟨_, he0, _⟩ | ⟨a, cap, vs, rfl, _, _, hr, hlies⟩
        · subst he0; simp at hget
        · obtain ⟨u, hu', hru⟩ := relAll_get hr _ _ hget
          obtain ⟨hsz', hc⟩ := hlies _ _ hu'
          refine ⟨.pointer (some (a.add (i.toNat * sizeT P e))), ?_, ?_⟩
          · simp [Instr.indexAt, asIntOf, run_underlying hu, hi0, hil, info_elem hu h0]
          · simp only [rel]
            exact ⟨_, u, rfl, hru, hc⟩
      · cases hd
    · rename_i id n k i
      cases hid : s.H id with
      | none => rw [hid] at hd; cases hd
      | some o =>
        rw [hid] at hd
        cases o <;> first | (cases hd; done) | skip
        rename_i e' k' cs
        simp only at hd
        split at hd
        · rename_i hc
          obtain ⟨rfl, rfl, h0, hi0, hil⟩ := hc
          simp only [Option.some.injEq] at hd; subst hd
          simp only [rel] at hx hi
          subst hi
          obtain ⟨hidn, _, hlive⟩ := hx
          have hv := (hlive _ _ _ hid).2 rfl
          obtain ⟨vs, ho, hr, h1, _, _⟩ := row_cells h hid
          rcases ho.2 with ⟨hv0, hn0⟩ | ⟨g, cap, cur, hv0, _, _⟩
          · omega
          · rw [hv0] at hv; subst hv
            refine ⟨.pointer (some ((⟨g, 0, none⟩ : Addr).add (i.toNat * sizeT P e'))), ?_, ?_⟩
            · simp [Instr.indexAt, asIntOf, run_underlying hu, hi0, hil, info_elem hu h0]
            · simp only [rel]
              exact ⟨hidn, ⟨_, rfl⟩, fun e2 k2 cs2 hH => by
                rw [hid] at hH; cases hH
                exact ⟨Nat.le_refl _, fun _ => ⟨g, by rw [hv0]; rfl, by rw [addr_add0, Nat.zero_add]⟩⟩⟩
        · cases hd
    · cases hd
  | none =>
    rw [he] at hd
    simp only at hd
    cases ha : arrT P t with
    | none => rw [ha] at hd; cases hd
    | some le =>
      obtain ⟨len, e⟩ := le
      rw [ha] at hd
      simp only at hd
      have hu := arrT_some ha
      have run : ∀ (a : Addr) (k : IntKind) (i : Int), sizeT P e ≠ 0 → 0 ≤ i → i < len → (Instr.indexAt t (.pointer (some a)) (.int k i)).run P w = .ok (.pointer (some (a.add (i.toNat * sizeT P e)))) w := by
        intro a k i h0 h1 h2
        obtain ⟨inf, hinf⟩ := info_of_size h0
        simp [Instr.indexAt, asIntOf, run_underlying hu, Instr.sureAddr, h1, h2, run_sizeOf hinf]
      split at hd
      · rename_i id off k i
        split at hd
        · rename_i hc
          simp only [Option.some.injEq] at hd; subst hd
          simp only [rel] at hx hi
          subst hi
          obtain ⟨h1, ⟨a, rfl⟩, h3⟩ := hx
          refine ⟨_, run a k i hc.1 hc.2.1 hc.2.2, ?_⟩
          simp only [rel]
          refine ⟨h1, ⟨_, rfl⟩, fun e' cs hH => ?_⟩
          obtain ⟨b, hk, ha'⟩ := h3 _ _ hH
          cases ha'
          exact ⟨b, hk, by rw [addr_add0]⟩
        · cases hd
      · rename_i id n off k i
        split at hd
        · rename_i hc
          simp only [Option.some.injEq] at hd; subst hd
          simp only [rel] at hx hi
          subst hi
          obtain ⟨h1, ⟨a, rfl⟩, h3⟩ := hx
          refine ⟨_, run a k i hc.1 hc.2.1 hc.2.2, ?_⟩
          simp only [rel]
          refine ⟨h1, ⟨_, rfl⟩, fun e' k' cs hH => ⟨(h3 _ _ _ hH).1, fun hnk => ?_⟩⟩
          obtain ⟨b, hk, ha'⟩ := (h3 _ _ _ hH).2 hnk
          cases ha'
          exact ⟨b, hk, by rw [addr_add0]⟩
        · cases hd
      · rename_i ds k i
        split at hd
        · rename_i hc
          simp only [Option.map_eq_some_iff] at hd
          obtain ⟨d', hd', rfl⟩ := hd
          simp only [rel] at hx hi
          subst hi
          obtain ⟨a, u, rfl, ⟨vs, rfl, hr, h1⟩, hcl⟩ := hx
          obtain ⟨u', hu', hsub, _, _⟩ := takeD_val hd' hr h1
          refine ⟨_, run a k i hc.1 hc.2.1 hc.2.2, ?_⟩
          simp only [rel]
          refine ⟨_, u', rfl, hu', fun j c hj => ?_⟩
          rw [addr_add_add]
          exact hcl _ _ (by simpa [Value.cells] using hsub j c hj)
        · cases hd
      · cases hd

theorem index_sound {s : RS} {w : World} {t : TypeId} {x i d : D} {vx vi : Value} (hd : indexD P t x i = some d) (hx : rel s x vx) (hi : rel s i vi) :
    ∃ u, (Instr.index t vx vi).run P w = .ok u w ∧ rel s d u := by
  unfold indexD at hd
  split at hd
  · rename_i len e ds k i ha
    have hu := arrT_some ha
    split at hd
    · rename_i hc
      obtain ⟨h0, h1, h2⟩ := hc
      simp only [rel] at hx hi
      subst hi
      obtain ⟨vs, rfl, hr, ho⟩ := hx
      obtain ⟨u, hu', _, _, hpart⟩ := takeD_val hd hr ho
      obtain ⟨inf, hinf⟩ := info_of_size h0
      exact ⟨u, by simp [Instr.index, asIntOf, run_underlying hu, h1, h2, run_sizeOf hinf, hpart], hu'⟩
    · cases hd
  · rename_i b k i ha
    split at hd
    · rename_i hs
      obtain ⟨hs, h0⟩ := hs
      simp only [Option.map_eq_some_iff] at hd
      obtain ⟨c, hc, rfl⟩ := hd
      simp only [rel] at hx hi
      subst hx; subst hi
      exact ⟨.int .u8 c.toNat, by simp [Instr.index, asIntOf, run_underlying (strT_some hs), h0, hc], by simp [rel]⟩
    · cases hd
  · cases hd

theorem field_sound {s : RS} {w : World} {t ft : TypeId} {f o : Nat} {ds : List D} {d : D} {v : Value} (hf : fieldT P t f = some (o, ft)) (hd : takeD P ft ds o = some d) (hx : rel s (.agg ds) v) :
    ∃ u, (Instr.field t v f).run P w = .ok u w ∧ rel s d u := by
  simp only [rel] at hx
  obtain ⟨vs, rfl, hr, ho⟩ := hx
  obtain ⟨u, hu', _, _, hpart⟩ := takeD_val hd hr ho
  unfold fieldT at hf
  cases hu : P.underlying t with
  | none => rw [hu] at hf; cases hf
  | some desc =>
    rw [hu] at hf
    cases desc <;> first | (cases hf; done) | skip
    rename_i fs
    simp only [Option.map_eq_some_iff] at hf
    obtain ⟨fld, hfld, heq⟩ := hf
    simp only [Prod.mk.injEq] at heq
    obtain ⟨rfl, rfl⟩ := heq
    exact ⟨u, by simp [Instr.field, run_underlying hu, hfld, asAgg, hpart], hu'⟩

theorem boundD_rel {s : RS} {dflt : Nat} {o : Option D} {ov : Option Value} {i : Int} (h : boundD dflt o = some i) (hr : ∀ d, o = some d → ∃ v, ov = some v ∧ rel s d v) (hn : o = none → ov = none) :
    (ov = none ∧ i = dflt) ∨ ∃ k, ov = some (.int k i) := by
  unfold boundD at h
  split at h
  · cases h; exact .inl ⟨hn rfl, rfl⟩
  · rename_i k j
    cases h
    obtain ⟨v, hv, hrv⟩ := hr _ rfl
    simp only [rel] at hrv; subst hrv
    exact .inr ⟨k, hv⟩
  · cases h

theorem run_sliceBound {k : IntKind} {i : Int} {y : Nat} {code : BoundsCode} {w : World} (h0 : 0 ≤ i) (h1 : i ≤ y) : (Instr.sliceBound (.int k i) y code).run P w = .ok i.toNat w := by
  simp [Instr.sliceBound, asIntOf, h0, h1]
theorem run_sliceBounds {len cap : Nat} {lo hi : Option Value} {l h : Int} {w : World} (hc : len ≤ cap)
    (hl : (lo = none ∧ l = (0 : Nat)) ∨ ∃ k, lo = some (.int k l)) (hh : (hi = none ∧ h = (len : Nat)) ∨ ∃ k, hi = some (.int k h)) (h0 : 0 ≤ l) (h1 : l ≤ h) (h2 : h ≤ len) :
    (Instr.sliceBounds true len cap lo hi none).run P w = .ok (l.toNat, h.toNat, cap) w := by
  rcases hl with ⟨rfl, rfl⟩ | ⟨kl, rfl⟩ <;> rcases hh with ⟨rfl, rfl⟩ | ⟨kh, rfl⟩
  · simp [Instr.sliceBounds]
  · have := run_sliceBound (P := P) (k := kh) (i := h) (y := cap) (code := .sliceAcap) (w := w) (by omega) (by omega)
    simp [Instr.sliceBounds, this]
  · have := run_sliceBound (P := P) (k := kl) (i := l) (y := len) (code := .sliceB) (w := w) (by omega) (by omega)
    simp [Instr.sliceBounds, this]
  · have h3 := run_sliceBound (P := P) (k := kh) (i := h) (y := cap) (code := .sliceAcap) (w := w) (by omega) (by omega)
    have h4 := run_sliceBound (P := P) (k := kl) (i := l) (y := h.toNat) (code := .sliceB) (w := w) (by omega) (by omega)
    simp [Instr.sliceBounds, h3, h4]

theorem run_sliceBoundsS {len cap : Nat} {lo hi : Option Value} {l h : Int} {w : World} (hc : len ≤ cap)
    (hl : (lo = none ∧ l = (0 : Nat)) ∨ ∃ k, lo = some (.int k l)) (hh : (hi = none ∧ h = (len : Nat)) ∨ ∃ k, hi = some (.int k h)) (h0 : 0 ≤ l) (h1 : l ≤ h) (h2 : h ≤ len) :
    (Instr.sliceBounds false len cap lo hi none).run P w = .ok (l.toNat, h.toNat, cap) w := by
  rcases hl with ⟨rfl, rfl⟩ | ⟨kl, rfl⟩ <;> rcases hh with ⟨rfl, rfl⟩ | ⟨kh, rfl⟩
  · simp [Instr.sliceBounds]
  · have := run_sliceBound (P := P) (k := kh) (i := h) (y := cap) (code := .sliceAlen) (w := w) (by omega) (by omega)
    simp [Instr.sliceBounds, this]
  · have := run_sliceBound (P := P) (k := kl) (i := l) (y := len) (code := .sliceB) (w := w) (by omega) (by omega)
    simp [Instr.sliceBounds, this]
  · have h3 := run_sliceBound (P := P) (k := kh) (i := h) (y := cap) (code := .sliceAlen) (w := w) (by omega) (by omega)
    have h4 := run_sliceBound (P := P) (k := kl) (i := l) (y := h.toNat) (code := .sliceB) (w := w) (by omega) (by omega)
    simp [Instr.sliceBounds, h3, h4]

theorem slice_sound {s : RS} {w : World} {t : TypeId} {x d : D} {lo hi : Option D} {vx : Value} {vlo vhi : Option Value} (hd : sliceD P t x lo hi = some d) (hx : rel s x vx)
    (hlo : ∀ d, lo = some d → ∃ v, vlo = some v ∧ rel s d v) (hlo' : lo = none → vlo = none) (hhi : ∀ d, hi = some d → ∃ v, vhi = some v ∧ rel s d v) (hhi' : hi = none → vhi = none) :
    ∃ u, (Instr.sliceAt t vx vlo vhi none).run P w = .ok u w ∧ rel s d u := by
  unfold sliceD at hd
  cases he : elemT P t with
  | none =>
    rw [he] at hd
    simp only at hd
    split at hd
    · rename_i x
      simp only [Option.bind_eq_some_iff] at hd
      obtain ⟨l, hl, h, hh, hd⟩ := hd
      split at hd
      · rename_i hc
        obtain ⟨hst, h0, h1, h2⟩ := hc
        simp only [Option.some.injEq] at hd; subst hd
        have hl' := boundD_rel hl hlo hlo'
        have hh' := boundD_rel hh hhi hhi'
        simp only [rel] at hx; subst hx
        have hb := run_sliceBoundsS (P := P) (len := x.size) (cap := x.size) (w := w) (Nat.le_refl _) hl' hh' h0 h1 h2
        exact ⟨.string (x.extract l.toNat h.toNat), by simp [Instr.sliceAt, Instr.slice, run_underlying (strT_some hst), hb], by simp [rel]⟩
      · cases hd
    · cases hd
  | some e =>
    rw [he] at hd
    have hu := elemT_some he
    simp only at hd
    split at hd
    · rename_i nn sz els
      simp only [Option.bind_eq_some_iff] at hd
      obtain ⟨l, hl, h, hh, hd⟩ := hd
      split at hd
      · rename_i hc
        obtain ⟨rfl, hne, h0, h1, h2⟩ := hc
        obtain ⟨inf, hinf⟩ := info_of_size hne
        simp only [Option.some.injEq] at hd; subst hd
        have hl' := boundD_rel hl hlo hlo'
        have hh' := boundD_rel hh hhi hhi'
        simp only [rel] at hx
        rcases hx with ⟨rfl, rfl, rfl⟩ | ⟨a, cap, vs, rfl, hcap, hmax, hr, hlies⟩
        · have hb := run_sliceBounds (P := P) (len := 0) (cap := 0) (w := w) (Nat.le_refl _) hl' hh' h0 h1 h2
          have h2' : h.toNat = 0 := by simp at h2; omega
          have h1' : l.toNat = 0 := by omega
          refine ⟨.slice none 0 0, ?_, ?_⟩
          · simp [Instr.sliceAt, Instr.slice, run_underlying hu, hb, run_sizeOf hinf, h2', h1']
          · simp [rel]
        · have hb := run_sliceBounds (P := P) (len := els.length) (cap := cap) (w := w) hcap hl' hh' h0 h1 h2
          refine ⟨.slice (if cap = l.toNat then some a else some (a.add (l.toNat * sizeT P e))) (h.toNat - l.toNat) (cap - l.toNat), ?_, ?_⟩
          · simp [Instr.sliceAt, Instr.slice, run_underlying hu, hb, run_sizeOf hinf]
          · simp only [rel]
            have hlv := relAll_length hr
            refine .inr ⟨if cap = l.toNat then a else a.add (l.toNat * sizeT P e), cap - l.toNat, (vs.take h.toNat).drop l.toNat, ?_, ?_, by omega, relAll_drop _ (relAll_take _ hr), ?_⟩
            · simp only [List.length_drop, List.length_take]
              split <;> (congr 1; omega)
            · simp only [List.length_drop, List.length_take]; omega
            · intro j v hj
              simp only [List.getElem?_drop, List.getElem?_take] at hj
              split at hj
              · rename_i hjl
                have hlt : l.toNat + j < vs.length := by
                  rcases Nat.lt_or_ge (l.toNat + j) vs.length with h9 | h9
                  · exact h9
                  · rw [List.getElem?_eq_none h9] at hj; cases hj
                obtain ⟨h5, h6⟩ := hlies _ _ hj
                refine ⟨h5, ?_⟩
                rw [if_neg (by omega), addr_add_add, ← Nat.add_mul]
                exact h6
              · cases hj
      · cases hd
    · simp only [Option.bind_eq_some_iff] at hd
      obtain ⟨l, hl, h, hh, hd⟩ := hd
      split at hd
      · rename_i hc
        obtain ⟨hne, rfl, rfl⟩ := hc
        obtain ⟨inf, hinf⟩ := info_of_size hne
        simp only [Option.some.injEq] at hd; subst hd
        have hl' := boundD_rel hl hlo hlo'
        have hh' := boundD_rel hh hhi hhi'
        simp only [rel] at hx; subst hx
        have hb := run_sliceBounds (P := P) (len := 0) (cap := 0) (w := w) (Nat.le_refl _) hl' hh' (by omega) (by omega) (by simp)
        exact ⟨.slice none 0 0, by simp [Instr.sliceAt, Instr.slice, run_underlying hu, hb, run_sizeOf hinf], by simp [rel]⟩
      · cases hd
    · cases hd

theorem run_sliceBounds3 {len cap : Nat} {k k' : IntKind} {h m : Int} {w : World} (h0 : 0 ≤ h) (h1 : h ≤ m) (h2 : m ≤ cap) :
    (Instr.sliceBounds true len cap none (some (.int k h)) (some (.int k' m))).run P w = .ok (0, h.toNat, m.toNat) w := by
  have h3 := run_sliceBound (P := P) (k := k') (i := m) (y := cap) (code := .slice3Acap) (w := w) (by omega) (by omega)
  have h4 := run_sliceBound (P := P) (k := k) (i := h) (y := m.toNat) (code := .slice3B) (w := w) (by omega) (by omega)
  simp [Instr.sliceBounds, h3, h4]
theorem slice3_sound {s : RS} {w : World} {t : TypeId} {x d : D} {lo hi : Option D} {mx : D} {vx vm : Value} {vlo vhi : Option Value} (hd : slice3D P t x lo hi mx = some d) (hx : rel s x vx)
    (hlo' : lo = none → vlo = none) (hhi : ∀ d, hi = some d → ∃ v, vhi = some v ∧ rel s d v) (hm : rel s mx vm) :
    ∃ u, (Instr.sliceAt t vx vlo vhi (some vm)).run P w = .ok u w ∧ rel s d u := by
  unfold slice3D at hd
  split at hd
  · rename_i e k h k' m he
    have hu := elemT_some he
    obtain ⟨v, rfl, hv⟩ := hhi _ rfl
    have hv0 := hlo' rfl
    subst hv0
    simp only [rel] at hv hm
    subst hv; subst hm
    split at hd
    · rename_i nn sz els
      split at hd
      · rename_i hc
        obtain ⟨rfl, hne, h0, rfl, h2⟩ := hc
        obtain ⟨inf, hinf⟩ := info_of_size hne
        simp only [Option.some.injEq] at hd; subst hd
        simp only [rel] at hx
        rcases hx with ⟨rfl, rfl, rfl⟩ | ⟨a, cap, vs, rfl, hcap, hmax, hr, hlies⟩
        · have hb := run_sliceBounds3 (P := P) (len := 0) (cap := 0) (k := k) (k' := k') (h := h) (m := h) (w := w) h0 (Int.le_refl _) (by simpa using h2)
          have h2' : h.toNat = 0 := by simp at h2; omega
          refine ⟨.slice none 0 0, by simp [Instr.sliceAt, Instr.slice, run_underlying hu, hb, run_sizeOf hinf, h2'], ?_⟩
          simp [rel]
        · have hb := run_sliceBounds3 (P := P) (len := els.length) (cap := cap) (k := k) (k' := k') (h := h) (m := h) (w := w) h0 (Int.le_refl _) (by omega)
          refine ⟨.slice (if h.toNat = 0 then some a else some (a.add (0 * sizeT P e))) (h.toNat - 0) (h.toNat - 0), ?_, ?_⟩
          · simp [Instr.sliceAt, Instr.slice, run_underlying hu, hb, run_sizeOf hinf]
          · simp only [rel]
            have hlv := relAll_length hr
            have hl : (els.take h.toNat).length = h.toNat := by rw [List.length_take]; omega
            refine .inr ⟨if h.toNat = 0 then a else a.add (0 * sizeT P e), vs.take h.toNat, ?_, by omega, relAll_take _ hr, ?_⟩
            · rw [hl]
              split <;> rfl
            · intro j v hj
              simp only [List.getElem?_take] at hj
              split at hj
              · rename_i hjl
                obtain ⟨h5, h6⟩ := hlies _ _ hj
                refine ⟨h5, ?_⟩
                rw [if_neg (by omega), addr_add_add, Nat.zero_mul, Nat.zero_add]
                exact h6
              · cases hj
      · cases hd
    · split at hd
      · rename_i hc
        obtain ⟨hne, rfl, rfl⟩ := hc
        obtain ⟨inf, hinf⟩ := info_of_size hne
        simp only [Option.some.injEq] at hd; subst hd
        simp only [rel] at hx; subst hx
        have hb := run_sliceBounds3 (P := P) (len := 0) (cap := 0) (k := k) (k' := k') (h := 0) (m := 0) (w := w) (Int.le_refl _) (Int.le_refl _) (by simp)
        exact ⟨.slice none 0 0, by simp [Instr.sliceAt, Instr.slice, run_underlying hu, hb, run_sizeOf hinf], by simp [rel]⟩
      · cases hd
    · cases hd
  · cases hd
end Go.Proofs.Ytjibdljdkgedcaa.Abs
