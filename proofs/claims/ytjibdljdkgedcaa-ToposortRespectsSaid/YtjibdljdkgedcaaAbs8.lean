/-
  The abstract operations are sound, fifth part: appends, make, and every operation that calls no function. No condition.
-/
import Derived.Test.YtjibdljdkgedcaaAbs7
set_option linter.unusedSimpArgs false
set_option linter.unusedVariables false
namespace Go.Proofs.Ytjibdljdkgedcaa.Abs
open Go.RowKit
variable {P : Program}

theorem source_sound {s : RS} {w : World} (h : RH P s w) {e : TypeId} {n m : Nat} (hn : 0 < n) {y : D} {news : List D} {v : Value} (hs : sizeT P e = n)
    (hd : sourceD s.H e n y = some (m, news)) (hy : rel s y v) :
    (v = .slice none 0 0 ∧ m = 0 ∧ news = []) ∨ ∃ a c vs, v = .slice (some a) m c ∧ relAll s news vs ∧ ones vs ∧ vs.length = m * n ∧ ∀ j u, vs[j]? = some u → w.cell? (a.add j) = some u := by
  unfold sourceD at hd
  split at hd
  · rename_i nn sz els
    split at hd
    · rename_i hsz
      subst hsz
      simp only [Option.map_eq_some_iff] at hd
      obtain ⟨cs, hcs, heq⟩ := hd
      simp only [Prod.mk.injEq] at heq
      obtain ⟨rfl, rfl⟩ := heq
      simp only [rel] at hy
      rcases hy with ⟨_, rfl, rfl⟩ | ⟨a, cap, vs, rfl, _, _, hr, hlies⟩
      · simp only [cellsAll, Option.some.injEq] at hcs
        subst hcs
        exact .inl ⟨rfl, rfl, rfl⟩
      · obtain ⟨h1, h2, h3⟩ := cellsAll_rel hcs hr
        have hfl := flat_length h3
        refine .inr ⟨a, cap, _, rfl, h1, h2, by rw [hfl, relAll_length hr], fun j u hj => ?_⟩
        have hjl : j < vs.length * sz := by
          rcases Nat.lt_or_ge j (vs.length * sz) with h9 | h9
          · exact h9
          · rw [List.getElem?_eq_none (by rw [hfl]; exact h9)] at hj; cases hj
        have hi : j / sz < vs.length := (Nat.div_lt_iff_lt_mul hn).2 hjl
        have hv : vs[j / sz]? = some vs[j / sz] := List.getElem?_eq_getElem hi
        obtain ⟨hsz', hc⟩ := hlies _ _ hv
        have hjm : j % sz < vs[j / sz].cells.toList.length := by simp only [Array.length_toList, hsz']; exact Nat.mod_lt _ hn
        have hc' := List.getElem?_eq_getElem hjm
        have hflat := flat_get h3 _ _ _ _ hv hc'
        have hdm : j / sz * sz + j % sz = j := by rw [Nat.mul_comm]; exact Nat.div_add_mod j sz
        rw [hdm, hj] at hflat
        cases hflat
        have := hc _ _ hc'
        rw [addr_add_add, hdm] at this
        exact (h.mem _ _ this).1
    · cases hd
  · simp only [Option.some.injEq, Prod.mk.injEq] at hd
    obtain ⟨rfl, rfl⟩ := hd
    simp only [rel] at hy
    exact .inl ⟨hy, rfl, rfl⟩
  · rename_i id k
    split at hd
    · rename_i e' k' cs hid
      split at hd
      · rename_i hk
        obtain ⟨rfl, rfl⟩ := hk
        simp only [Option.some.injEq, Prod.mk.injEq] at hd
        obtain ⟨rfl, rfl⟩ := hd
        simp only [rel] at hy
        obtain ⟨_, _, hlive⟩ := hy
        have hv := (hlive _ _ _ hid).2 rfl
        subst hv
        obtain ⟨vs, ho, hr, h1, hcl, hcell⟩ := row_cells h hid
        have hsz := hs
        rcases ho.2 with ⟨hv0, hn0⟩ | ⟨g, cap, cur, hv0, _⟩
        · subst hn0
          have hx : vs = [] := List.eq_nil_of_length_eq_zero (by simpa using ho.1)
          subst hx
          have : cs = [] := List.eq_nil_of_length_eq_zero (by simpa using hcl)
          subst this
          exact .inl ⟨hv0, rfl, rfl⟩
        · refine .inr ⟨⟨g, 0, none⟩, cap, vs, hv0, hr, h1, by rw [ho.1, hsz], fun j u hj => ?_⟩
          rw [addr_add0, Nat.zero_add]
          exact hcell g (by rw [hv0]; rfl) j u hj
      · cases hd
    · cases hd
  · cases hd

theorem run_append_any {w : World} {t ty e : TypeId} {v y : Value} {n m : Nat} {xs vs : List Value} (hu : P.underlying t = some (.slice e)) (hpos : 0 < sizeT P e) (hz : hasZero P e = true)
    (hown : w.ownsRow 0 e (sizeT P e) v n xs) (hbytes : (n + m) * bytesT P e ≤ 140737488355328) (h63 : n + m ≤ maxLen)
    (hy : (y = .slice none 0 0 ∧ m = 0 ∧ vs = []) ∨ ∃ a c, y = .slice (some a) m c ∧ ones vs ∧ vs.length = m * sizeT P e ∧ ∀ j u, vs[j]? = some u → w.cell? (a.add j) = some u) :
    ∃ v' w', (Builtin.append_ #[t, t] ty #[v, y]).run P w = .ok v' w' ∧ w'.ownsRow 0 e (sizeT P e) v' (n + m) (xs ++ vs) ∧ w.grownBy w' v.ownBlock ∧
      (∀ b, blockOf v' = some b → blockOf v = some b ∨ w.heap.size ≤ b) ∧ (m = 0 → v' = v) := by
  obtain ⟨i, z, hi, hzz, hzs⟩ := hasZero_some hz
  have hsz : i.size = sizeT P e := by simp [sizeT, hi]
  have hby : i.bytes = bytesT P e := by simp [bytesT, hi]
  rcases hy with ⟨rfl, rfl, rfl⟩ | ⟨a, c, rfl, h1, hl, hc⟩
  · refine ⟨v, w, ?_, by simpa using hown, ⟨rfl, rfl, rfl, Nat.le_refl _, fun _ _ _ => rfl⟩, fun b hb => .inl hb, fun _ => rfl⟩
    rcases hown.2 with ⟨rfl, rfl⟩ | ⟨g, cap, cur, rfl, _, _, hnc, _⟩
    · simp [Builtin.append_, run_underlying hu, sizeOf, typeInfo, hi, Builtin.lenOf, Builtin.firstCells]
    · simp [Builtin.append_, run_underlying hu, sizeOf, typeInfo, hi, Builtin.lenOf, Builtin.firstCells, hnc, storeCells]
  · obtain ⟨v', w', hr, hown', hg, hnil⟩ := run_append_own (P := P) w 0 t ty e i z (sizeT P e) (bytesT P e) hu hi hzz hsz hby hzs hpos v n xs hown a m c vs hl hc h1 h63 hbytes (Nat.zero_le _)
    refine ⟨v', w', hr, hown', hg, ?_⟩
    have hsmall : n + m ≤ 9223372036854775807 := by simp only [maxLen] at h63; omega
    rcases hown.2 with ⟨rfl, rfl⟩ | ⟨g, cap, cur, rfl, _, hh, hnc, hcm, hcs, htake⟩
    · by_cases hm : m = 0
      · subst hm
        have := hnil.2 ⟨rfl, rfl⟩
        subst this
        exact ⟨fun b hb => .inl hb, fun _ => rfl⟩
      · have hr2 := run_append_nil (P := P) w t ty e i z hu hi hzz a m c vs (by rw [hl, hsz]) hc (by omega) (by omega) (by rw [hby]; simp only [Nat.zero_add] at hbytes; omega)
        rw [hr] at hr2
        cases hr2
        refine ⟨fun b hb => .inr ?_, fun h0 => (hm h0).elim⟩
        simp only [blockOf, Option.some.injEq] at hb; omega
    · by_cases hroom : n + m ≤ cap
      · have hfit : n * sizeT P e + vs.length ≤ cur.size := by rw [hl, hcs, ← Nat.add_mul]; exact Nat.mul_le_mul_right _ hroom
        have hr2 := run_append_room (P := P) w t ty e i hu hi g n cap cur hh a m c vs (by rw [hl, hsz]) hc h1 hroom (by rw [hsz]; exact hfit)
        rw [hr] at hr2
        cases hr2
        refine ⟨fun b hb => .inl hb, fun h0 => by subst h0; rfl⟩
      · have holds : ∀ j u, xs[j]? = some u → w.cell? ((⟨g, 0, none⟩ : Addr).add j) = some u := hown.cells (g := g) rfl
        have hr2 := run_append_grow (P := P) w t ty e i z hu hi hzz ⟨g, 0, none⟩ n cap xs (by rw [hown.1, hsz]) holds a m c vs (by rw [hl, hsz]) hc (by omega) (by omega) (by rw [hby]; exact growslice_fits (by omega) hbytes)
        rw [hr] at hr2
        cases hr2
        refine ⟨fun b hb => .inr ?_, fun h0 => by omega⟩
        simp only [blockOf, Option.some.injEq] at hb; omega

theorem own_eq_block {w : World} {b : Nat} {e : TypeId} {sz : Nat} {v : Value} {n : Nat} {xs : List Value} (h : w.ownsRow b e sz v n xs) : v.ownBlock = blockOf v := by
  rcases h.2 with ⟨rfl, _⟩ | ⟨g, cap, cur, rfl, _⟩ <;> rfl
theorem own_slice {w : World} {b : Nat} {e : TypeId} {sz : Nat} {v : Value} {n : Nat} {xs : List Value} (h : w.ownsRow b e sz v n xs) : ∃ a c, v = .slice a n c := by
  rcases h.2 with ⟨rfl, rfl⟩ | ⟨g, cap, cur, rfl, _⟩ <;> exact ⟨_, _, rfl⟩

theorem append_sound {s : RS} {w : World} (h : RH P s w) {t ty : TypeId} {x y d : D} {vx vy : Value} {H : HM} {nx : Nat} (hd : appendD P s.H s.nx t x y = some (d, H, nx)) (hx : rel s x vx) (hy : rel s y vy) :
    ∃ v s' w', (Builtin.append_ #[t, t] ty #[vx, vy]).run P w = .ok v w' ∧ Step s w s' w' ∧ RH P s' w' ∧ s'.H = H ∧ s'.nx = nx ∧ rel s' d v := by
  unfold appendD at hd
  cases he : elemT P t with
  | none => rw [he] at hd; cases hd
  | some e =>
    rw [he] at hd
    have hu := elemT_some he
    simp only at hd
    split at hd
    · rename_i hc
      obtain ⟨hpos, hz⟩ := hc
      simp only [Option.bind_eq_some_iff] at hd
      obtain ⟨⟨m, news⟩, hsrc, hd⟩ := hd
      have hs := source_sound h hpos rfl hsrc hy
      obtain ⟨us, hrel, hsv⟩ : ∃ us : List Value, relAll s news us ∧ ones us ∧ ((vy = .slice none 0 0 ∧ m = 0 ∧ us = []) ∨ ∃ a c, vy = .slice (some a) m c ∧ ones us ∧ us.length = m * sizeT P e ∧ ∀ j u, us[j]? = some u → w.cell? (a.add j) = some u) := by
        rcases hs with ⟨h1, h2, h3⟩ | ⟨a, c, us, h1, h2, h3, h4, h5⟩
        · exact ⟨[], by rw [h3]; exact relAll_nil, ones_nil, .inl ⟨h1, h2, rfl⟩⟩
        · exact ⟨us, h2, h3, .inr ⟨a, c, h1, h3, h4, h5⟩⟩
      obtain ⟨ho1, hsv⟩ := hsv
      simp only at hd
      split at hd
      · split at hd
        · rename_i hb
          simp only [Option.some.injEq, Prod.mk.injEq] at hd
          obtain ⟨rfl, rfl, rfl⟩ := hd
          simp only [rel] at hx; subst hx
          obtain ⟨v', w', hr, hown, hg, hbl, _⟩ := run_append_any (ty := ty) hu hpos hz (World.ownsRow_nil w 0 e (sizeT P e)) (by simpa using hb.1) (by simpa using hb.2) hsv
          simp only [Nat.zero_add, List.nil_append] at hown
          have hgrew : Grew w w' := ⟨hg.os, hg.tape, hg.output, hg.size, fun k hk => hg.block k hk (by simp [Value.ownBlock])⟩
          have hl := later_add h v' (.row e m news)
          obtain ⟨h1, h2⟩ := new_obj h hgrew (.row e m news) v' (fun b hb' => by
            rcases hbl b hb' with h3 | h3
            · cases h3
            · exact h3) ⟨us, hown, relAll.later hl _ _ hrel, ho1⟩
          refine ⟨v', _, w', hr, h1, h2, rfl, rfl, ?_⟩
          simp only [rel]
          obtain ⟨a, c, hvs⟩ := own_slice hown
          refine ⟨by simp [RS.add], ⟨a, c, hvs⟩, fun e' k cs hH => ?_⟩
          simp only [RS.add, updH, if_true, Option.some.injEq, HObj.row.injEq] at hH
          obtain ⟨_, rfl, _⟩ := hH
          exact ⟨Nat.le_refl _, fun _ => by simp [RS.add]⟩
        · cases hd
      · rename_i id n
        cases hid : s.H id with
        | none => rw [hid] at hd; cases hd
        | some o =>
          rw [hid] at hd
          cases o <;> first | (cases hd; done) | skip
          rename_i e' k cs
          simp only at hd
          split at hd
          · rename_i hb
            obtain ⟨rfl, rfl, hb1, hb2⟩ := hb
            simp only [Option.some.injEq, Prod.mk.injEq] at hd
            obtain ⟨rfl, rfl, rfl⟩ := hd
            simp only [rel] at hx
            obtain ⟨hidn, _, hlive⟩ := hx
            have hv := (hlive _ _ _ hid).2 rfl
            subst hv
            obtain ⟨vs, ho, hrv, hov, _, _⟩ := row_cells h hid
            obtain ⟨v', w', hr, hown, hg, hbl, hm0⟩ := run_append_any (ty := ty) hu hpos hz ho hb1 hb2 hsv
            obtain ⟨h1, h2⟩ := set_obj (w' := w') h id (.row e' n cs) (.row e' (n + m) (cs ++ news)) v' hid hg.os hg.tape hg.output hg.size
              (fun k hk hne => hg.block k hk (by rw [own_eq_block ho]; exact hne))
              (.inr ⟨n + m, cs ++ news, rfl, Nat.le_add_right _ _, fun hnm => hm0 (by omega)⟩)
              (fun b hb => hbl b hb)
              (fun hl => ⟨vs ++ us, hown, relAll.later hl _ _ (relAll_append hrv hrel), ones_append hov ho1⟩)
            refine ⟨v', _, w', hr, h1, h2, rfl, rfl, ?_⟩
            simp only [rel]
            obtain ⟨a, c, hvs⟩ := own_slice hown
            refine ⟨hidn, ⟨a, c, hvs⟩, fun e2 k2 cs2 hH => ?_⟩
            simp only [RS.set, updH, if_true, Option.some.injEq, HObj.row.injEq] at hH
            obtain ⟨_, rfl, _⟩ := hH
            exact ⟨Nat.le_refl _, fun _ => by simp [RS.set]⟩
          · cases hd
      · cases hd
    · cases hd

theorem flatten_rep_get {α : Type} (l : List α) : ∀ (k i : Nat), (List.replicate k l).flatten[i]? = if i < k * l.length then l[i % l.length]? else none
  | 0, i => by simp
  | k + 1, i => by
    simp only [List.replicate_succ, List.flatten_cons, List.getElem?_append]
    by_cases h : i < l.length
    · rw [if_pos h, if_pos (by rw [Nat.add_mul]; omega), Nat.mod_eq_of_lt h]
    · rw [if_neg h, flatten_rep_get l k (i - l.length)]
      by_cases h2 : i < (k + 1) * l.length
      · have h3 : i - l.length < k * l.length := by rw [Nat.add_mul] at h2; omega
        rw [if_pos h3, if_pos h2, ← Nat.mod_eq_sub_mod (by omega)]
      · have h3 : ¬ i - l.length < k * l.length := by rw [Nat.add_mul] at h2; omega
        rw [if_neg h3, if_neg h2]
theorem madeCells_toList (z : Array Value) (k : Nat) : (madeCells z (k * z.size)).toList = (List.replicate k z.toList).flatten := by
  apply List.ext_getElem?
  intro i
  rw [flatten_rep_get]
  simp only [madeCells, Array.toList_map, Array.toList_range, List.getElem?_map, Array.length_toList]
  by_cases h : i < k * z.size
  · have hz : 0 < z.size := by rcases Nat.eq_zero_or_pos z.size with h0 | h0; · rw [h0] at h; simp at h
                               · exact h0
    have hm := Nat.mod_lt i hz
    simp [h, hm]
  · simp [h]

theorem relAll_rep {s : RS} {zs : List D} {vs : List Value} (h : relAll s zs vs) : ∀ k, relAll s (List.replicate k zs).flatten (List.replicate k vs).flatten
  | 0 => by simp [relAll]
  | k + 1 => by simp only [List.replicate_succ, List.flatten_cons]; exact relAll_append h (relAll_rep h k)
theorem ones_rep {vs : List Value} (h : ones vs) : ∀ k, ones (List.replicate k vs).flatten
  | 0 => by simp [ones]
  | k + 1 => by simp only [List.replicate_succ, List.flatten_cons]; exact ones_append h (ones_rep h k)

theorem make_sound {s : RS} {w : World} (h : RH P s w) {t e : TypeId} {kl kc : IntKind} {l : Int} {zs : List D} (he : elemT P t = some e) (hz : zeroT P e = some zs)
    (h0 : 0 ≤ l) (hb : l.toNat * bytesT P e ≤ 140737488355328) (h63 : l ≤ 9223372036854775807) (_hpos : 0 < sizeT P e) :
    ∃ v s' w', (Instr.makeSlice t (.int kl l) (.int kc l)).run P w = .ok v w' ∧ Step s w s' w' ∧ RH P s' w' ∧ s'.H = updH s.H s.nx (some (.row e l.toNat (List.replicate l.toNat zs).flatten)) ∧ s'.nx = s.nx + 1 ∧ rel s' (.osl s.nx l.toNat) v := by
  have hu := elemT_some he
  unfold zeroT at hz
  simp only [Option.bind_eq_some_iff] at hz
  obtain ⟨z, ⟨i, hi, hzz⟩, hz⟩ := hz
  split at hz
  · rename_i hc
    obtain ⟨hc1, hc2⟩ := hc
    cases hz
    have hsz : i.size = sizeT P e := by simp [sizeT, hi]
    have hby : i.bytes = bytesT P e := by simp [bytesT, hi]
    have hbi : (i.bytes : Int) * l ≤ 281474976710656 := by
      have e1 : (i.bytes : Int) * l = ((l.toNat * bytesT P e : Nat) : Int) := by
        rw [hby, Int.natCast_mul, Int.toNat_of_nonneg h0, Int.mul_comm]
      rw [e1]; omega
    have hr := run_make (P := P) w t e i z hu hi hzz kl kc l l h0 (Int.le_refl _) hbi h63
    have hz1 : ones z.cells.toList := fun u hu => by simpa using List.all_eq_true.1 hc2 u hu
    have hcells : madeCells z.cells (l.toNat * i.size) = (List.replicate l.toNat z.cells.toList).flatten.toArray := by
      apply Array.ext'
      rw [hsz, ← hc1, madeCells_toList]
    rw [hcells] at hr
    have hlen : (List.replicate l.toNat z.cells.toList).flatten.length = l.toNat * sizeT P e := by
      simp [hc1]
    obtain ⟨h1, h2⟩ := new_obj h (Grew.alloc w (.cells (List.replicate l.toNat z.cells.toList).flatten.toArray e)) (.row e l.toNat (List.replicate l.toNat (z.cells.toList.map ofCell)).flatten)
      (.slice (some ⟨w.heap.size, 0, none⟩) l.toNat l.toNat) (fun b hb' => by simp only [blockOf, Option.some.injEq] at hb'; omega)
      ⟨(List.replicate l.toNat z.cells.toList).flatten, ⟨hlen, .inr ⟨w.heap.size, l.toNat, _, rfl, Nat.zero_le _, heap_alloc_new w _, Nat.le_refl _, by simp only [maxLen]; omega, by simpa using hlen, by
        rw [List.take_of_length_le (by rw [hlen]; exact Nat.le_refl _)]⟩⟩, relAll_rep (relAll_ofCells _ _) _, ones_rep hz1 _⟩
    refine ⟨_, _, _, hr, h1, h2, rfl, rfl, ?_⟩
    simp only [rel]
    refine ⟨by simp [RS.add], ⟨_, _, rfl⟩, fun e' k cs hH => ?_⟩
    simp only [RS.add, updH, if_true, Option.some.injEq, HObj.row.injEq] at hH
    obtain ⟨_, rfl, _⟩ := hH
    exact ⟨Nat.le_refl _, fun _ => by simp [RS.add]⟩
  · cases hz

end Go.Proofs.Ytjibdljdkgedcaa.Abs
