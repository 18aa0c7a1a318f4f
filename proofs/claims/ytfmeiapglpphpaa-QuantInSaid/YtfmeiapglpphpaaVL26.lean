import Derived.Test.YtfmeiapglpphpaaVL25
/- Lists that are filled from the front. -/
namespace Go.VL
def fill {α : Type} (f : Nat → α) (a : List α) (k : Nat) : List α := (List.range k).map f ++ a.drop k
section
variable {α : Type} {f : Nat → α} {a : List α} {k : Nat} {d : α}
theorem fill_zero : fill f a 0 = a := by simp [fill]
theorem fill_len (h : k ≤ a.length) : (fill f a k).length = a.length := by simp [fill]; omega
theorem elt_fill {K : IntKind} {f : Nat → Int} {a : List Int} (h : k < a.length) : (ints K (fill f a k))[k]? = some (.v (.int K (a.getD k 0))) := by
  rw [elt_ints (by simp [fill]; omega)]; simp [fill, List.getD, List.getElem?_append]
theorem fill_at (_h : k < a.length) : (fill f a k).getD k d = a.getD k d := by simp [fill, List.getD, List.getElem?_append]
theorem fill_set (h : k < a.length) : (fill f a k).set k (f k) = fill f a (k + 1) := by
  unfold fill
  rw [List.range_succ, List.map_append, List.map_singleton, List.append_assoc, List.singleton_append]
  have e : a.drop k = a[k] :: a.drop (k + 1) := List.drop_eq_getElem_cons h
  rw [List.set_append_right _ _ (by simp), List.length_map, List.length_range, Nat.sub_self, e]
  rfl
theorem fill_all : fill f a a.length = (List.range a.length).map f := by simp [fill]
theorem fill_copy {v : List α} (h : a.length = v.length) : fill (fun i => v.getD i d) a v.length = v := by
  rw [← h, fill_all, h]
  apply List.ext_getElem (by simp)
  intro i h1 h2
  simp [List.getD, h2]
theorem take_snoc (h : k < a.length) : a.take (k + 1) = a.take k ++ [a.getD k d] := by
  rw [List.take_succ_eq_append_getElem h]; simp [List.getD, h]
theorem getD_mem (h : k < a.length) : a.getD k d ∈ a := by simp [List.getD, h]
theorem all_take_snoc {p : α → Bool} (h : k < a.length) : (a.take (k + 1)).all p = ((a.take k).all p && p (a.getD k d)) := by
  rw [take_snoc (d := d) h, List.all_append]; simp
theorem all_false_at {p : α → Bool} (h : k < a.length) (hp : p (a.getD k d) = false) : a.all p = false := by
  rw [List.all_eq_false]; exact ⟨_, getD_mem (d := d) h, by rw [hp]; exact Bool.false_ne_true⟩
theorem flatMap_take_snoc {β : Type} {g : α → List β} (h : k < a.length) : (a.take (k + 1)).flatMap g = (a.take k).flatMap g ++ g (a.getD k d) := by
  rw [take_snoc (d := d) h, List.flatMap_append]; simp
theorem map_take_snoc {β : Type} {g : α → β} (h : k < a.length) : (a.take (k + 1)).map g = (a.take k).map g ++ [g (a.getD k d)] := by
  rw [take_snoc (d := d) h, List.map_append]; simp
theorem foldl_take_snoc {β : Type} {g : β → α → β} {b : β} (h : k < a.length) : (a.take (k + 1)).foldl g b = g ((a.take k).foldl g b) (a.getD k d) := by
  rw [take_snoc (d := d) h, List.foldl_append]; simp
theorem ext_getD {b : List α} (hl : a.length = b.length) (h : ∀ i, i < a.length → a.getD i d = b.getD i d) : a = b := by
  apply List.ext_getElem hl
  intro i h1 h2
  have := h i h1
  simpa [List.getD, h1, h2] using this
theorem take_eq_snoc {b : List α} (h1 : k < a.length) (h2 : k < b.length) (h : a.take k = b.take k) (hk : a.getD k d = b.getD k d) : a.take (k + 1) = b.take (k + 1) := by
  rw [take_snoc (d := d) h1, take_snoc (d := d) h2, h, hk]
end
theorem map_range_getD {α : Type} {l : List α} {d : α} : (List.range l.length).map (fun i => l.getD i d) = l := by
  apply List.ext_getElem (by simp)
  intro i h1 h2
  simp [List.getD, h2]
theorem getD_map_range {α : Type} {f : Nat → α} {n i : Nat} {d : α} (h : i < n) : ((List.range n).map f).getD i d = f i := by simp [List.getD, h]
end Go.VL
