/-
  Short names. No condition of its own.
-/
namespace Go.Proofs.Ytofacoojpgkbiaa
theorem yaa {α : Type _} {a : α} {l : List α} : (a :: l)[0]? = some a := List.getElem?_cons_zero
theorem yab {α : Type _} {a : α} {l : List α} {i : Nat} : (a :: l)[i + 1]? = l[i]? := List.getElem?_cons_succ
theorem yac {α : Type _} {l : List α} {i : Nat} : l.toArray[i]? = l[i]? := List.getElem?_toArray
theorem yad {α : Type _} {a : α} {as : List α} {i : Nat} : List.take (i + 1) (a :: as) = a :: List.take i as := List.take_succ_cons
theorem yae {α : Type _} {l : List α} : List.take 0 l = [] := List.take_zero
theorem yaf {α : Type _} {a : α} {l : List α} {i : Nat} : List.drop (i + 1) (a :: l) = List.drop i l := List.drop_succ_cons
theorem yag {α : Type _} {l : List α} : List.drop 0 l = l := List.drop_zero
theorem yah {α : Type _} {i : Nat} {b : α} {xs : Array α} : xs[i]? = some b ↔ ∃ h : i < xs.size, xs[i] = b := Array.getElem?_eq_some_iff
theorem yai {α : Type _} {i : Nat} {a : α} {l : List α} : l[i]? = some a ↔ ∃ h : i < l.length, l[i] = a := List.getElem?_eq_some_iff
theorem yaj {α : Type _} {a b : α} : a ∈ [b] ↔ a = b := List.mem_singleton
theorem yak {α : Type _} {l : List α} {i : Nat} {a : α} : l.toArray.setIfInBounds i a = (l.set i a).toArray := List.setIfInBounds_toArray ..
theorem yal {α : Type _} {x a : α} {xs : List α} : (x :: xs).set 0 a = a :: xs := List.set_cons_zero
theorem yam {α : Type _} {x a : α} {xs : List α} {i : Nat} : (x :: xs).set (i + 1) a = x :: xs.set i a := List.set_cons_succ
theorem yan {α : Type _} {as : List α} : as.toArray.size = as.length := List.size_toArray
theorem yao {α : Type _} {n : Nat} {a : α} : Array.replicate (n + 1) a = (Array.replicate n a).push a := Array.replicate_succ
theorem yap {α : Type _} {a : α} : Array.replicate 0 a = #[] := Array.replicate_zero
theorem yaq {α : Type _} (l : List α) (a : α) : l.toArray.push a = (l ++ [a]).toArray := List.push_toArray l a
theorem yar {α : Type _} (l₁ l₂ : List α) : l₁.toArray ++ l₂.toArray = (l₁ ++ l₂).toArray := List.append_toArray l₁ l₂
theorem yas {α : Type _} (as : List α) : [] ++ as = as := List.nil_append as
theorem yat {α : Type _} {a : α} {as bs : List α} : (a :: as) ++ bs = a :: (as ++ bs) := List.cons_append
theorem yau {α : Type _} {a : α} {as : List α} : (a :: as).length = as.length + 1 := List.length_cons
theorem yav {α : Type _} : ([] : List α).length = 0 := List.length_nil
theorem yaw {α : Type _} {a b : α} (h : some a = some b) : a = b := Option.some.inj h
theorem yax (n : Nat) : n ≤ n := Nat.le_refl n
end Go.Proofs.Ytofacoojpgkbiaa
