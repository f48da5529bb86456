/- PART OF THE PROOF THAT THIS CLAIM HOLDS OF THE GIVEN PROGRAM, FOR EVERY INPUT THAT THE STATEMENT NAMES. No condition besides the statement's own. -/
import Derived.WalkKit
import Derived.Deep.WholeRow
import Derived.Deep.MidRow
import Derived.Test.YthkaifgepkfheaaUxTreeAllZ
import Derived.Great.BuildSlice
/- Whole arrays into and out of the block that was made last, at the operation. No program. -/
namespace Go.Ux
open Go Go.RowKit
variable {P : Program}

theorem wpList_store_new {ops : Array Oper} {rest : List Oper} {op : Oper} {a : Act} {w : World} {Q : Exit → Act → World → Prop} (hgd : op.guard = none) (ty : TypeId) (x y : Operand) (ho : op.op = .store ty x y)
    (c c' : Array Value) (hx : a.eval x = .pointer (some ⟨w.heap.size, 0, none⟩)) (hy : a.eval y = .agg c') (hi : (P.info? ty).map (·.size) = some c'.size) (hs : c.size = c'.size) (h1 : c'.all (·.oneCell') = true)
    (h : wpList P ops Q rest (a.put op.dst undef) (w.alloc (.cells c' ty))) : wpList P ops Q (op :: rest) a (w.alloc (.cells c ty)) :=
  wpList_plain hgd fun _ hK => by
    unfold Oper.wp execOp
    simp only [ho, hx, hy, Sem.run_bind, Sem.run_pure, Result.andThen_ok, run_storeAt_new w ty c c' hi hs h1]
    exact hK _ _ h

theorem setCell_new (w : World) (c : Array Value) (ty : TypeId) (j : Nat) (v : Value) : (w.alloc (.cells c ty)).setCell ⟨w.heap.size, j, none⟩ v = w.alloc (.cells (c.setIfInBounds j v) ty) := by
  have e : (w.alloc (.cells c ty)).setCell ⟨w.heap.size, j, none⟩ v = (w.alloc (.cells c ty)).setRow w.heap.size (c.setIfInBounds j v) := by
    unfold World.setCell World.setRow
    simp only [World.alloc]
    congr 1
    apply Array.ext_getElem?
    intro i
    rw [Array.getElem?_modify, Array.getElem?_modify]
    by_cases h : w.heap.size = i
    · subst h
      simp
    · simp [h]
  rw [e, World.setRow_alloc_new]

theorem cell_new (w : World) (c : Array Value) (ty : TypeId) (j : Nat) : (w.alloc (.cells c ty)).cell? ⟨w.heap.size, j, none⟩ = c[j]? := cell_of_row _ _ j c ty (0, 0) (heap_alloc_last w _)

theorem wpList_load_new {ops : Array Oper} {rest : List Oper} {op : Oper} {a : Act} {w : World} {Q : Exit → Act → World → Prop} (hgd : op.guard = none) (ty : TypeId) (x : Operand) (ho : op.op = .load ty x)
    (c : Array Value) (n : Nat) (e : TypeId) (hu : P.underlying ty = some (.array n e)) (hx : a.eval x = .pointer (some ⟨w.heap.size, 0, none⟩)) (hi : (P.info? ty).map (·.size) = some c.size)
    (h : wpList P ops Q rest (a.put op.dst (.agg c)) (w.alloc (.cells c ty))) : wpList P ops Q (op :: rest) a (w.alloc (.cells c ty)) :=
  wpList_plain hgd fun _ hK => by
    unfold Oper.wp execOp
    simp only [ho, hx, Sem.run_bind, Sem.run_pure, Result.andThen_ok, run_loadAt_new w ty c n e hu hi]
    exact hK _ _ h
/-- guards: the operation is a store, or a load, of this type -/
theorem is_store {ops : Array Oper} {rest : List Oper} {op : Oper} {a : Act} {w : World} {Q : Exit → Act → World → Prop} {x y : Operand} (ty : TypeId) (_ : op.op = .store ty x y) (h : wpList P ops Q (op :: rest) a w) : wpList P ops Q (op :: rest) a w := h
theorem is_load {ops : Array Oper} {rest : List Oper} {op : Oper} {a : Act} {w : World} {Q : Exit → Act → World → Prop} {x : Operand} (ty : TypeId) (_ : op.op = .load ty x) (h : wpList P ops Q (op :: rest) a w) : wpList P ops Q (op :: rest) a w := h

/-- an array of noughts, built -/
theorem wpList_buildZero {ops : Array Oper} {rest : List Oper} {o : Oper} {a : Act} {w : World} {Q : Exit → Act → World → Prop} (hg : o.guard = none) (t e : TypeId) (n : Nat) (ho : o.op = .build t #[]) (Z : Array Value)
    (hu : P.underlying t = some (.array n e)) (hz : (zeroValue t).run P w = .ok (.agg Z) w) (ie : TypeInfo) (hie : P.info? e = some ie)
    (h : wpList P ops Q rest (a.put o.dst (.agg Z)) w) : wpList P ops Q (o :: rest) a w :=
  wpList_plain hg fun _ hK => by
    have hr : (Instr.build t #[]).run P w = .ok (.agg Z) w := by
      simp [Instr.build, hz, run_underlying hu, sizeOf, typeInfo, hie, Instr.fill, Value.cells]
    unfold Oper.wp execOp
    simp only [ho, List.map_toArray, List.map_nil, Sem.run_bind, Sem.run_pure, Result.andThen_ok, hr]
    exact hK _ _ h

theorem put_all : ∀ (l : List Value) (k : Nat) (cs : Array Value), k + l.length = cs.size → (l.zipIdx k).foldl (fun cs (x : Value × Nat) => cs.setIfInBounds (0 + x.2) x.1) cs = (cs.toList.take k ++ l).toArray
  | [], k, cs, h => by
    have : cs.toList.take k = cs.toList := List.take_of_length_le (by simp at h ⊢; omega)
    simp [this]
  | v :: l, k, cs, h => by
    rw [List.zipIdx_cons, List.foldl_cons, put_all l (k + 1) _ (by simp at h ⊢; omega)]
    congr 1
    have hk : k < cs.toList.length := by simp at h ⊢; omega
    simp only [Nat.zero_add, Array.toList_setIfInBounds]
    rw [List.take_add_one, List.take_set_of_le (Nat.le_refl _), List.getElem?_set_self hk]
    simp

/-- a slice of one array, built -/
theorem wpList_buildOne {ops : Array Oper} {rest : List Oper} {o : Oper} {a : Act} {w : World} {Q : Exit → Act → World → Prop} (hg : o.guard = none) (t e : TypeId) (x : Operand) (ho : o.op = .buildSlice t 1 #[(0, x)]) (A : Array Value)
    (hx : a.eval x = .agg A) (ie : TypeInfo) (z : Value) (hu : P.underlying t = some (.slice e)) (hie : P.info? e = some ie) (hz : ie.zero = some z) (hs : ie.size = A.size) (hp : 0 < A.size) (hm : A.size ≤ 2 ^ 24)
    (h : wpList P ops Q rest (a.put o.dst (.slice (some ⟨w.heap.size, 0, none⟩) 1 1)) (w.alloc (.cells A e))) : wpList P ops Q (o :: rest) a w := by
  refine wpList_buildSlice hg t e 1 _ ho A ie z hu hie hz (by rw [hs]; omega) (by rw [hs]; omega) ?_ h
  generalize (fun j => z.cells[j % z.cells.size]!) = gz
  simp only [List.map_toArray, List.map_cons, List.map_nil, hx, Instr.fill, Value.cells, hs]
  simp only [Nat.one_mul, Nat.zero_mul, Array.size_map, Array.size_range, Nat.zero_add]
  rw [if_neg (by simp)]
  congr 1
  have := put_all A.toList 0 ((Array.range A.size).map gz) (by simp)
  simp only [List.take_zero, List.nil_append, Nat.zero_add] at this
  rw [← Array.foldl_toList, Array.toList_zipIdx]
  simpa using this
theorem is_build {ops : Array Oper} {rest : List Oper} {op : Oper} {a : Act} {w : World} {Q : Exit → Act → World → Prop} {p : Array (Nat × Operand)} (ty : TypeId) (_ : op.op = .build ty p) (h : wpList P ops Q (op :: rest) a w) : wpList P ops Q (op :: rest) a w := h
theorem is_buildSlice {ops : Array Oper} {rest : List Oper} {op : Oper} {a : Act} {w : World} {Q : Exit → Act → World → Prop} {n : Nat} {p : Array (Nat × Operand)} (ty : TypeId) (_ : op.op = .buildSlice ty n p) (h : wpList P ops Q (op :: rest) a w) : wpList P ops Q (op :: rest) a w := h

/-- one cell out of an array in hand -/
theorem wpList_index {ops : Array Oper} {rest : List Oper} {o : Oper} {a : Act} {w : World} {Q : Exit → Act → World → Prop} (hg : o.guard = none) (t e : TypeId) (n x : Nat) (y z : Operand) (ho : o.op = .index t y z) (A : Array Value) (v : Value)
    (hu : P.underlying t = some (.array n e)) (hs : (sizeOf e).run P w = .ok 1 w) (ha : (isAgg e).run P w = .ok false w) (hy : a.eval y = .agg A) (hz : a.eval z = .int .i64 (x : Int)) (hx : x < n) (hv : A[x]? = some v)
    (h : wpList P ops Q rest (a.put o.dst v) w) : wpList P ops Q (o :: rest) a w :=
  wpList_plain hg fun _ hK => by
    have hr : (Instr.index t (.agg A) (.int .i64 (x : Int))).run P w = .ok v w := by
      have hb : (0 : Int) ≤ x ∧ (x : Int) < n := by omega
      simp [Instr.index, asIntOf, run_underlying hu, hs, hb, part, ha, hv]
      omega
    unfold Oper.wp execOp
    simp only [ho, hy, hz, Sem.run_bind, Sem.run_pure, Result.andThen_ok, hr]
    exact hK _ _ h
theorem is_index {ops : Array Oper} {rest : List Oper} {op : Oper} {a : Act} {w : World} {Q : Exit → Act → World → Prop} {x y : Operand} (ty : TypeId) (_ : op.op = .index ty x y) (h : wpList P ops Q (op :: rest) a w) : wpList P ops Q (op :: rest) a w := h

/-- a builtin clear whose run is known -/
theorem wpList_clear {ops : Array Oper} {rest : List Oper} {o : Oper} {a : Act} {w : World} {Q : Exit → Act → World → Prop} {x1 v' : Value} {w' : World} (hgd : o.guard = none) (x : Operand) (t : TypeId)
    (ho : o.op = .call { callee := .builtin .clear, args := #[x], argTypes := #[t] }) (hx : a.eval x = x1)
    (hr : (Builtin.clear_ #[t] o.type #[x1]).run P w = .ok v' w') (h : wpList P ops Q rest (a.put o.dst v') w') : wpList P ops Q (o :: rest) a w :=
  wpList_plain hgd fun _ hK => by
    unfold Oper.wp execOp
    simp only [ho, resolve, invoke, builtin, Sem.run_bind, Sem.run_pure, Result.andThen_ok, List.map_toArray, List.map_cons, List.map_nil, hx, hr]
    exact hK _ _ h
/-- clear of one element of some cells -/
theorem run_clear_one (w : World) (t e ty : TypeId) (zs : Array Value) (ht : P.underlying t = some (.slice e)) (hv : ∀ w, (zeroValue e).run P w = .ok (.agg zs) w) (h1 : ∀ v ∈ zs.toList, v.oneCell' = true)
    (g o c : Nat) (cur : Array Value) (tt : TypeId) (hg : w.heap[g]? = some (.cells cur tt (0, 0))) (hfit : o + zs.size ≤ cur.size) :
    (Builtin.clear_ #[t] ty #[.slice (some ⟨g, o, none⟩) 1 c]).run P w = .ok (.tuple #[]) (w.setRow g (cur.toList.take o ++ zs.toList ++ cur.toList.drop (o + zs.size)).toArray) := by
  have hzc : (Builtin.zeroCells zs 1).toList = zs.toList := by
    apply List.ext_getElem
    · simp [Builtin.zeroCells]
    · intro i h1 h2
      have : i < zs.size := by simpa using h2
      simp [Builtin.zeroCells, Nat.mod_eq_of_lt this, this]
  have hst := run_storeCells_at P g o tt zs.toList 0 cur w hg (by simpa using hfit) h1
  simp only [Nat.add_zero, Array.length_toList] at hst
  simp [Builtin.clear_, run_underlying ht, hv, Value.cells, hzc, hst]
end Go.Ux
