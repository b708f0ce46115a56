import Derived.Test.YtdhbnblpkodhjaaDoorAeB
import Derived.Test.YtdhbnblpkodhjaaDoorRows
namespace Go.Proofs.YtdhbnblpkodhjaaDoor.AE
open Go
set_option linter.unusedVariables false
set_option linter.unusedSimpArgs false
/-! What comes in is of little bulk: so are its lengths. -/
def WU (n : Nat) : (T : Ty) → T.den → Prop
  | .int k, x => (Lit.int k x).wf = true
  | .str, s => s.size ≤ maxLen ∧ s.size ≤ n
  | .slice e, l => (l.length ≤ maxLen ∧ l.length ≤ n) ∧ AllL (WU n e) l
  | .one a, x => WU n a x
  | .pair a b, x => WU n a x.1 ∧ WU n b x.2
  | .bool, _ | .unit, _ | .ext _, _ => True
theorem WU.wf {n : Nat} : ∀ {T : Ty} {x : T.den}, WU n T x → WF T x
  | .int _, _, h => h
  | .str, _, h => h.1
  | .slice _, _, h => ⟨h.1.1, fun x hx => WU.wf (h.2 x hx)⟩
  | .one a, _, h => WU.wf (T := a) h
  | .pair a b, _, h => ⟨WU.wf h.1, WU.wf h.2⟩
  | .bool, _, _ | .unit, _, _ | .ext _, _, _ => trivial
theorem bulk_one {H : Type} (d : DataW H) : 1 ≤ Rows.uptoBulk d := by
  cases d with
  | lit l => cases l <;> simp [Rows.uptoBulk]
  | nil => simp [Rows.uptoBulk]
  | ptr d => simp [Rows.uptoBulk]
  | slice elems spare => simp [Rows.uptoBulk]
  | agg parts => simp [Rows.uptoBulk]
  | iface t d => simp [Rows.uptoBulk]
  | map entries => simp [Rows.uptoBulk]
  | held h => simp [Rows.uptoBulk]
theorem bulk_part {H : Type} {d : DataW H} {l : List (DataW H)} (h : d ∈ l) : Rows.uptoBulk d ≤ Rows.uptoBulkAll l := by
  induction l with
  | nil => cases h
  | cons x r ih =>
    simp only [Rows.uptoBulkAll]
    rcases List.mem_cons.1 h with rfl | e
    · omega
    · have := ih e; omega
theorem bulk_len {H : Type} (l : List (DataW H)) : l.length ≤ Rows.uptoBulkAll l := by
  induction l with
  | nil => simp [Rows.uptoBulkAll]
  | cons x r ih => have := bulk_one x; simp only [Rows.uptoBulkAll, List.length_cons]; omega
section
variable {H : Type} {enc : TypeId × Value → H} {P : Program} {w : World} {base : Nat} {spare : Nat → Bool} {held : Bool} {X : ExtRep} {ok : Nat → Prop}
/-- AN ARGUMENT's CELLS are data's. -/
theorem trod_upt (n0 : Nat) (hok : ∀ b, b < w.heap.size → ok b) : ∀ (T : Ty),
    (∀ (fuel : Nat) (t : TypeId) (cs : List Value) (x : DataW H × List MemPlace), (deep P T).1 t = true → DataW.trod enc P w base spare held fuel t cs = some x → Rows.uptoBulk x.1 ≤ n0 → ∃ d : T.den, Rep X w ok T d cs ∧ WU n0 T d) ∧
    (∀ (off fuel : Nat) (fs : List Field) (cs : List Value), (deep P T).2 off fs = true → cs.length = off + T.size →
      (∀ f ∈ fs, ∃ y, DataW.trod enc P w base spare held fuel f.type ((cs.drop f.offset).take (P.cellsOf f.type)) = some y ∧ Rows.uptoBulk y.1 ≤ n0) → ∃ d : T.den, Rep X w ok T d (cs.drop off) ∧ WU n0 T d)
  | .int k => by
    refine ⟨fun fuel t cs x hd h hu0 => ?_, fun _ _ _ _ h => by simp [deep] at h⟩
    simp only [deep] at hd
    split at hd
    · rename_i k' hu
      simp only [decide_eq_true_eq] at hd
      subst hd
      obtain ⟨n, rfl, rfl, hw⟩ := DataW.trod_int hu h
      exact ⟨n, rfl, hw⟩
    · cases hd
  | .bool => by
    refine ⟨fun fuel t cs x hd h hu0 => ?_, fun _ _ _ _ h => by simp [deep] at h⟩
    simp only [deep] at hd
    split at hd
    · rename_i hu
      obtain ⟨n, rfl, rfl⟩ := DataW.trod_bool hu h
      exact ⟨n, rfl, trivial⟩
    · cases hd
  | .str => by
    refine ⟨fun fuel t cs x hd h hu0 => ?_, fun _ _ _ _ h => by simp [deep] at h⟩
    simp only [deep] at hd
    split at hd
    · rename_i hu
      obtain ⟨n, rfl, rfl, hw⟩ := DataW.trod_string hu h
      refine ⟨n, rfl, hw, ?_⟩
      simp only [Rows.uptoBulk] at hu0
      have : n.size = n.data.toList.length := by rw [Array.length_toList]; rfl
      omega
    · cases hd
  | .unit => by
    refine ⟨fun fuel t cs x hd h hu0 => ?_, fun off fuel fs cs h hl hf => ?_⟩
    · simp only [deep] at hd
      split at hd
      · rename_i fs hu
        obtain ⟨xs, m, rfl, rfl, hl, _⟩ := DataW.trod_struct hu h
        rw [Nat.beq_eq] at hd
        rw [hd] at hl
        exact ⟨(), List.eq_nil_of_length_eq_zero hl, trivial⟩
      · cases hd
    · refine ⟨(), ?_, trivial⟩
      exact List.drop_eq_nil_of_le (by rw [hl]; exact Nat.le_refl _)
  | .ext i => ⟨fun _ _ _ _ hd _ _ => by simp [deep] at hd, fun _ _ _ _ h => by simp [deep] at h⟩
  | .one a => by
    have iha := trod_upt n0 (hok := hok) a
    have second : ∀ (off fuel : Nat) (fs : List Field) (cs : List Value), (deep P (.one a)).2 off fs = true → cs.length = off + a.size →
      (∀ f ∈ fs, ∃ y, DataW.trod enc P w base spare held fuel f.type ((cs.drop f.offset).take (P.cellsOf f.type)) = some y ∧ Rows.uptoBulk y.1 ≤ n0) → ∃ d : a.den, Rep X w ok a d (cs.drop off) ∧ WU n0 a d := by
      intro off fuel fs cs h hl hf
      simp only [deep] at h
      split at h
      · rename_i f
        simp only [Bool.and_eq_true, Nat.beq_eq] at h
        obtain ⟨y, hy, hyb⟩ := hf f (by simp)
        rw [h.1, h.2.1, List.take_of_length_le (by rw [List.length_drop]; omega)] at hy
        exact iha.1 _ _ _ _ h.2.2 hy hyb
      · cases h
    refine ⟨fun fuel t cs x hd h hu0 => ?_, second⟩
    simp only [deep] at hd
    split at hd
    · rename_i fs hu
      obtain ⟨xs, m, rfl, rfl, hl, hn, hf⟩ := DataW.trod_struct hu h
      simp only [Bool.and_eq_true, Nat.beq_eq] at hd
      have := second 0 m fs.toList cs (by simp only [deep]; exact hd.2) (by rw [hl, hd.1, Nat.zero_add]) (fun f hf' => by
        obtain ⟨i, hi⟩ := List.mem_iff_getElem?.1 hf'
        have hi' : fs[i]? = some f := by simpa using hi
        have := hf i f hi'
        have hlt : i < xs.length := by rw [hn]; exact (Array.getElem?_eq_some_iff.1 hi').1
        rw [List.getElem?_eq_getElem hlt] at this
        refine ⟨_, this, ?_⟩
        simp only [Rows.uptoBulk] at hu0
        have : Rows.uptoBulk xs[i].1 ≤ Rows.uptoBulkAll (xs.map (·.1)) := bulk_part (List.mem_map_of_mem (f := (·.1)) (List.getElem_mem hlt))
        omega)
      rw [List.drop_zero] at this
      exact this
    · cases hd
  | .pair a b => by
    have iha := trod_upt n0 (hok := hok) a
    have ihb := trod_upt n0 (hok := hok) b
    have second : ∀ (off fuel : Nat) (fs : List Field) (cs : List Value), (deep P (.pair a b)).2 off fs = true → cs.length = off + (a.size + b.size) →
      (∀ f ∈ fs, ∃ y, DataW.trod enc P w base spare held fuel f.type ((cs.drop f.offset).take (P.cellsOf f.type)) = some y ∧ Rows.uptoBulk y.1 ≤ n0) → ∃ d : (Ty.pair a b).den, Rep X w ok (.pair a b) d (cs.drop off) ∧ WU n0 (.pair a b) d := by
      intro off fuel fs cs h hl hf
      simp only [deep] at h
      split at h
      · rename_i f r
        simp only [Bool.and_eq_true, Nat.beq_eq] at h
        obtain ⟨y, hy, hyb⟩ := hf f (by simp)
        rw [h.1, h.2.1] at hy
        obtain ⟨d1, r1, w1⟩ := iha.1 _ _ _ _ h.2.2.1 hy hyb
        obtain ⟨d2, r2, w2⟩ := ihb.2 (off + a.size) fuel r cs h.2.2.2 (by omega) (fun f hf' => hf f (by simp [hf']))
        refine ⟨(d1, d2), ⟨_, _, ?_, r1, r2⟩, w1, w2⟩
        rw [← List.drop_drop, List.take_append_drop]
      · cases h
    refine ⟨fun fuel t cs x hd h hu0 => ?_, second⟩
    simp only [deep] at hd
    split at hd
    · rename_i fs hu
      obtain ⟨xs, m, rfl, rfl, hl, hn, hf⟩ := DataW.trod_struct hu h
      simp only [Bool.and_eq_true, Nat.beq_eq] at hd
      have := second 0 m fs.toList cs (by simp only [deep]; exact hd.2) (by rw [hl, hd.1, Nat.zero_add]) (fun f hf' => by
        obtain ⟨i, hi⟩ := List.mem_iff_getElem?.1 hf'
        have hi' : fs[i]? = some f := by simpa using hi
        have := hf i f hi'
        have hlt : i < xs.length := by rw [hn]; exact (Array.getElem?_eq_some_iff.1 hi').1
        rw [List.getElem?_eq_getElem hlt] at this
        refine ⟨_, this, ?_⟩
        simp only [Rows.uptoBulk] at hu0
        have : Rows.uptoBulk xs[i].1 ≤ Rows.uptoBulkAll (xs.map (·.1)) := bulk_part (List.mem_map_of_mem (f := (·.1)) (List.getElem_mem hlt))
        omega)
      rw [List.drop_zero] at this
      exact this
    · cases hd
  | .slice e => by
    have ihe := trod_upt n0 (hok := hok) e
    refine ⟨fun fuel t cs x hd h hu0 => ?_, fun _ _ _ _ h => by simp [deep] at h⟩
    simp only [deep] at hd
    split at hd
    · rename_i te hu
      simp only [Bool.and_eq_true, Nat.beq_eq] at hd
      obtain ⟨hsz, hpos, hde⟩ := hd
      have hpos' : 0 < e.size := by simpa [Nat.blt_eq] using hpos
      rcases DataW.trod_slice hu h with ⟨rfl, _⟩ | ⟨a, len, cap, elems, rest, m, _, rfl, ex, hb, hle, hcap, hlen, hel, _⟩
      · exact ⟨[], ⟨none, 0, rfl, Nat.le_refl _, Nat.zero_le _, .inl rfl⟩, ⟨Nat.zero_le _, Nat.zero_le _⟩, fun x hx => by cases hx⟩
      · subst ex
        simp only [Rows.uptoBulk] at hu0
        have hbl := bulk_len (elems.map (·.1))
        rw [List.length_map] at hbl
        have each : ∀ i : Nat, ∃ (d : e.den) (cs : List Value), i < len → Rep X w ok e d cs ∧ WU n0 e d ∧ w.cells? base (a.add (i * e.size)) e.size = some cs := by
          intro i
          by_cases hi : i < len
          · have := hel i hi
            rw [hsz, List.getElem?_eq_getElem (show i < elems.length by omega), Option.bind_eq_some_iff] at this
            obtain ⟨cs, h1, h2⟩ := this
            have hlt' : i < elems.length := by omega
            have hpb : Rows.uptoBulk elems[i].1 ≤ Rows.uptoBulkAll (elems.map (·.1)) := bulk_part (List.mem_map_of_mem (f := (·.1)) (List.getElem_mem hlt'))
            obtain ⟨d, h3, h4⟩ := ihe.1 _ _ _ _ hde h2 (by omega)
            exact ⟨d, cs, fun _ => ⟨h3, h4, h1⟩⟩
          · exact ⟨e.zero, [], fun h => absurd h hi⟩
        obtain ⟨f, hf⟩ := Classical.axiomOfChoice each
        obtain ⟨g, hg⟩ := Classical.axiomOfChoice hf
        have hll : ((List.range len).map f).length = len := by simp
        refine ⟨(List.range len).map f, ⟨some a, cap, by rw [hll], by omega, hcap, ?_⟩, ⟨by rw [hll]; omega, by rw [hll]; omega⟩, fun x hx => ?_⟩
        · rcases Nat.eq_zero_or_pos len with h0 | h0
          · left; rw [h0]; rfl
          · right
            obtain ⟨b, off, spot⟩ := a
            have h1 := (World.cells?_some (hg 0 h0).2.2).2.2 0 hpos'
            have h2 := (World.cells?_some (hg 0 h0).2.2).2.1
            rw [List.getElem?_eq_getElem (by omega)] at h1
            have hspot : spot = none := by simpa [Addr.add] using World.cell?_spot h1
            subst hspot
            have hlt := cell_lt h1
            simp only [Go.ChangeShapes.block_add] at hlt
            refine ⟨b, off, (List.range len).flatMap g, rfl, hok b hlt, ?_, RepL_range f g _ fun i hi => (hg i (by simpa using hi)).1⟩
            have := CellsAt_range (w := w) (b := b) (off := off) (s := e.size) (g := g) len 0 (fun i _ hi => by
              obtain ⟨_, k2, k3⟩ := World.cells?_some (hg i (by omega)).2.2
              refine ⟨k2, fun j v hj => ?_⟩
              have hj' := (List.getElem?_eq_some_iff.1 hj).1
              have := k3 j (by omega)
              rw [hj] at this
              rw [← this]
              congr 1
              unfold Addr.add
              split <;> split <;> simp_all <;> omega)
            rw [List.range_eq_range']
            simpa using this
        · obtain ⟨i, hi, rfl⟩ := List.mem_map.1 hx
          exact (hg i (by simpa using hi)).2.1
    · cases hd
/-- AN ARGUMENT. -/
theorem arg_VU (n0 : Nat) {r : Reach} {b0 : Nat} (hok : ∀ b, b < w.heap.size → ok b) {own : List Own} (T : Ty) {t : TypeId} {v : Value} {d : DataW H} {ps : List MemPlace} (ht : (deep P T).1 t = true) (hv : Value.okWide P w r b0 t v) (h : DataW.Trod enc P w base spare held t v d ps) (hu0 : Rows.uptoBulk d ≤ n0) :
    ∃ x : T.den, VR X w ok own (inject T x) v ∧ WU n0 T x := by
  obtain ⟨fuel, hf⟩ := h
  obtain ⟨x, h1, h2⟩ := (trod_upt (X := X) n0 hok T).1 _ _ _ _ ht hf hu0
  refine ⟨x, ?_, h2⟩
  have e : joined T v.cells.toList = v := by
    unfold joined
    have hlen := Rep.len w ok T x _ h1
    cases T with
    | unit | one _ | pair _ _ =>
      simp only [deep] at ht
      split at ht
      · rename_i fs hu
        simp only [Value.okWide, hu] at hv
        obtain ⟨cs, rfl, _⟩ := hv
        rfl
      · cases ht
    | ext _ => simp [deep] at ht
    | int _ | bool | str | slice _ =>
      simp only [Ty.isAgg]
      simp only [deep] at ht
      split at ht
      · rename_i hu
        simp only [Value.okWide, hu, Cell.okWide] at hv
        cases v <;> simp_all [Cell.ok, Value.cells]
      · cases ht
  rw [← e]
  exact inject_VR h1
end
end Go.Proofs.YtdhbnblpkodhjaaDoor.AE
