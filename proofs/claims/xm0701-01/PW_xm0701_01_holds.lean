import PyProof.Rows.All
import Wide.All
import OpenK.AllK
import Wide.FinOn
import Lean
import PySem.Challenge.RW_xm0701_01
open PySem PySem.W PySem.Calls PyProof.Rows PyProof.V PySem.Spec
set_option Elab.async false
set_option maxRecDepth 100000
set_option maxHeartbeats 4000000

namespace Mine

section
variable {prog : Program} {w : World} {A : Around} {E : Value → Shared → Prop} {s : Shared} {env : Env} {h₀ : Heap} {x : Str} {body : List Stmt} {Q : Flow → Shared → Prop}
/-- a loop over a made list of ints that changes nothing but locals: one generic turn -/
theorem my_loop {l : Addr} {vs : List Value} {ns : List Int} {nn : Nat} {L : Addr} {m₀ : Str → Option Value} {news : List (Addr × Obj)} (stored : List Str) (lo hi : Int) (hL : env.locals = L)
    (hh : A.handled = none) (hl : (l, listOf vs.toArray nn) ∈ news) (his : IntsAre vs ns) (hb : ∀ n ∈ ns, lo ≤ n ∧ n ≤ hi) (F : Fr h₀ L s.heap m₀) (N : News h₀ L s.heap news)
    (turn : ∀ (pre : List Int) (n : Int) (t : Tok) (u : Str → Option Value) (h : Heap) (tk : Nat) (own : List (Addr × Obj)), KstMark → lo ≤ n ∧ n ≤ hi → OwnOff own (news.map (·.1)) →
      Fr h₀ L h (fun y => if y = x then some (.int n t) else if stored.contains y then u y else m₀ y) → News h₀ L h (news ++ own) →
      wpAny (model prog w) A (execs body env) (InvPostN h₀ L (KstS (fun _ : Unit => news) (fun _ => []) (fun _ => True) x stored m₀ (fun _ _ => True) (pre ++ [n])) own (news.map (·.1)) { s with heap := h, toks := tk } Q) E { s with heap := h, toks := tk })
    (done : ∀ (u : Str → Option Value) (h : Heap) (tk : Nat), Fr h₀ L h (fun y => if y = x then u y else if stored.contains y then u y else m₀ y) → News h₀ L h news → Q .next { s with heap := h, toks := tk }) :
    wpAny (model prog w) A (pyIter (.ref l)) (fun it s₂ => LoopAtV prog w A h₀ env x body Q E it s₂) E s := by
  subst hL
  refine kst_listL (fun _ : Unit => news) (fun _ => []) (fun _ => True) stored (fun _ _ => True) () hh (fun _ => hl) his F N trivial (fun _ h => nomatch h) trivial ?_ ?_
  · intro c pre post n t u h tk own _ hm ho _ _ F₁ N₁
    exact turn pre n t u h tk own kstMark (hb n hm) ho F₁ N₁
  · intro c u h tk _ _ F₁ N₁
    exact done u h tk F₁ N₁
end

/-- z is the whole number nearest to x / y, of two the one further from nought -/
def NearP (x y z : Int) : Prop := 0 < y ∧ y ≤ 1000000000000 ∧ ((0 ≤ x ∧ -y ≤ 2 * (x - y * z) ∧ 2 * (x - y * z) < y) ∨ (x < 0 ∧ -y < 2 * (x - y * z) ∧ 2 * (x - y * z) ≤ y))

theorem near_pos {x y z f : Int} (hx : 0 ≤ x) (hy : 0 < y) (hY : y ≤ 1000000000000) (hz : z = f + (2 * x + y).fdiv (2 * y)) : NearP x y (z - f) := by
  subst hz
  have h := fdiv_fmod_facts (2 * x + y) (2 * y)
  have h1 := h.1
  have h2 := h.2.2.1 (by omega)
  have e : y * (f + (2 * x + y).fdiv (2 * y) - f) = y * (2 * x + y).fdiv (2 * y) := by congr 1; omega
  have e2 : (2 * x + y).fdiv (2 * y) * (2 * y) = 2 * (y * (2 * x + y).fdiv (2 * y)) := by
    rw [Int.mul_comm, Int.mul_assoc]
  refine ⟨hy, hY, .inl ⟨hx, ?_⟩⟩
  rw [e]
  rw [e2] at h1
  generalize y * (2 * x + y).fdiv (2 * y) = Y at *
  omega
theorem near_neg {x y z f : Int} (hx : x < 0) (hy : 0 < y) (hY : y ≤ 1000000000000) (hz : z = f + (0 - (0 - 2 * x + y).fdiv (2 * y))) : NearP x y (z - f) := by
  subst hz
  have h := fdiv_fmod_facts (0 - 2 * x + y) (2 * y)
  have h1 := h.1
  have h2 := h.2.2.1 (by omega)
  have e : y * (f + (0 - (0 - 2 * x + y).fdiv (2 * y)) - f) = - (y * (0 - 2 * x + y).fdiv (2 * y)) := by
    rw [← Int.mul_neg]; congr 1; omega
  have e2 : (0 - 2 * x + y).fdiv (2 * y) * (2 * y) = 2 * (y * (0 - 2 * x + y).fdiv (2 * y)) := by
    rw [Int.mul_comm, Int.mul_assoc]
  refine ⟨hy, hY, .inr ⟨hx, ?_⟩⟩
  rw [e]
  rw [e2] at h1
  generalize y * (0 - 2 * x + y).fdiv (2 * y) = Y at *
  omega

theorem near_e2 {x y z : Int} (hn : NearP x y z) (h1 : ¬(2 * if x - y * z < 0 then -(x - y * z) else x - y * z) < if y < 0 then -y else y) (h2 : (2 * if x - y * z < 0 then -(x - y * z) else x - y * z) = if y < 0 then -y else y) :
    decide ((if x < 0 then -x else x) < if y * z < 0 then -(y * z) else y * z) = true := by
  unfold NearP at hn
  generalize y * z = Y at *
  rw [decide_eq_true_eq]
  split at h2 <;> split at h2 <;> split <;> split <;> omega
theorem near_e3 {x y z : Int} (hn : NearP x y z) (h1 : ¬(2 * if x - y * z < 0 then -(x - y * z) else x - y * z) < if y < 0 then -y else y) (h2 : (2 * if x - y * z < 0 then -(x - y * z) else x - y * z) ≠ if y < 0 then -y else y) : False := by
  unfold NearP at hn
  generalize y * z = Y at *
  split at h1 <;> split at h1 <;> split at h2 <;> (try split at h2) <;> omega

/-- what drawn_place's answer is -/
def Drawn (n f0 f1 l0 l1 r : Int) : Prop :=
  (n ≤ f0 → r = n + f1 - f0) ∧ (f0 < n → l0 ≤ n → r = n + l1 - l0) ∧ (f0 < n → n < l0 → NearP ((n - f0) * (l1 - f1)) (l0 - f0) (r - f1))

theorem drawn_A {n f0 f1 l0 l1 : Int} (h : n ≤ f0) : Drawn n f0 f1 l0 l1 (n + f1 - f0) :=
  ⟨fun _ => rfl, fun h1 _ => by omega, fun h1 _ => by omega⟩
theorem drawn_B {n f0 f1 l0 l1 : Int} (h : ¬ n ≤ f0) (h2 : l0 ≤ n) : Drawn n f0 f1 l0 l1 (n + l1 - l0) :=
  ⟨fun h1 => by omega, fun _ _ => rfl, fun _ h1 => by omega⟩
theorem drawn_C {n f0 f1 l0 l1 : Int} (h : ¬ n ≤ f0) (h2 : ¬ l0 ≤ n) (hf : -100000000000 ≤ f0 ∧ f0 ≤ 100000000000) (hl : -100000000000 ≤ l0 ∧ l0 ≤ 100000000000) (h3 : (n - f0) * (l1 - f1) < 0) :
    Drawn n f0 f1 l0 l1 (f1 + (0 - (0 - 2 * ((n - f0) * (l1 - f1)) + (l0 - f0)).fdiv (2 * (l0 - f0)))) :=
  ⟨fun h1 => by omega, fun _ h1 => by omega, fun _ _ => near_neg h3 (by omega) (by omega) rfl⟩
theorem drawn_D {n f0 f1 l0 l1 : Int} (h : ¬ n ≤ f0) (h2 : ¬ l0 ≤ n) (hf : -100000000000 ≤ f0 ∧ f0 ≤ 100000000000) (hl : -100000000000 ≤ l0 ∧ l0 ≤ 100000000000) (h3 : ¬ (n - f0) * (l1 - f1) < 0) :
    Drawn n f0 f1 l0 l1 (f1 + (2 * ((n - f0) * (l1 - f1)) + (l0 - f0)).fdiv (2 * (l0 - f0))) :=
  ⟨fun h1 => by omega, fun _ h1 => by omega, fun _ _ => near_pos (by omega) (by omega) (by omega) rfl⟩
theorem drawn_dec1 {n f0 f1 l0 l1 r : Int} (h : Drawn n f0 f1 l0 l1 r) (a : n ≤ f0) : ¬ ((r - n != f1 - f0) = true) := by
  have := h.1 a
  simp only [bne_iff_ne, ne_eq, Decidable.not_not]
  omega
theorem drawn_dec2 {n f0 f1 l0 l1 r : Int} (h : Drawn n f0 f1 l0 l1 r) (a : ¬ n ≤ f0) (b : l0 ≤ n) : ¬ ((r - n != l1 - l0) = true) := by
  have := h.2.1 (by omega) b
  simp only [bne_iff_ne, ne_eq, Decidable.not_not]
  omega
theorem drawn_near {n f0 f1 l0 l1 r : Int} (h : Drawn n f0 f1 l0 l1 r) (a : ¬ n ≤ f0) (b : ¬ l0 ≤ n) : NearP ((n - f0) * (l1 - f1)) (l0 - f0) (r - f1) := h.2.2 (by omega) (by omega)
theorem two_ne {n f0 l0 : Int} (a : ¬ n ≤ f0) (b : ¬ l0 ≤ n) : 2 * (l0 - f0) ≠ 0 := by omega
theorem loop_end {h₀ : Heap} {L : Addr} {x t : Str} {v w : Value} {u m₀ : Str → Option Value} {news own news' : List (Addr × Obj)} {pre : List Int} {s₁ : Shared} {h' : Heap} {tk : Nat}
    (F : Fr h₀ L h' (fun y => if y = t then some v else if y = x then some w else if [t].contains y = true then u y else m₀ y)) (N : News h₀ L h' news') (hn : ∀ p ∈ news, p ∈ news') (ho : ∀ p ∈ own, p ∈ news') :
    InvEndN h₀ L (KstS (fun _ : Unit => news) (fun _ => []) (fun _ => True) x [t] m₀ (fun _ _ => True) pre) own (news.map (·.1)) s₁ { s₁ with heap := h', toks := tk } :=
  kst_end () F N hn ho rfl trivial (fun _ h => nomatch h) (fun z h1 _ h3 => by
    have h4 : z ≠ t := by
      intro e
      subst e
      simp at h3
    show (if z = t then some v else if z = x then some w else if [t].contains z = true then u z else m₀ z) = m₀ z
    rw [if_neg h4, if_neg h1, h3]
    simp) trivial

/-- the cut of a call that gives an int and changes nothing -/
def CutI (P : Int → Prop) (h₀ : Heap) (L : Addr) (m : Str → Option Value) (news : List (Addr × Obj)) (s : Shared) (v : Value) (s' : Shared) : Prop :=
  ∃ (r : Int) (t : Tok) (h : Heap) (tk : Nat), v = .int r t ∧ s' = { s with heap := h, toks := tk } ∧ Fr h₀ L h m ∧ News h₀ L h news ∧ P r
theorem CutI.intro {P : Int → Prop} {h₀ h : Heap} {L : Addr} {m : Str → Option Value} {news news' : List (Addr × Obj)} {s : Shared} {r : Int} {t : Tok} {tk : Nat}
    (F : Fr h₀ L h m) (N : News h₀ L h news') (hn : ∀ p ∈ news, p ∈ news') (hp : P r) : CutI P h₀ L m news s (.int r t) { s with heap := h, toks := tk } :=
  ⟨r, t, h, tk, rfl, rfl, F, fun p q => N p (hn p q), hp⟩
abbrev tupOf (its : Array Value) (n : Nat) : Obj := { cls := .type "tuple", data := .seq its n }

section
variable {M : Model} {A : Around} {E : Value → Shared → Prop} {s : Shared} {h₀ : Heap} {L : Addr} {m : Str → Option Value} {news : List (Addr × Obj)} {Q : Value → Shared → Prop}
theorem cut_drawn {f a b : Addr} {n f0 f1 l0 l1 : Int} {t u0 u1 w0 w1 : Tok} {ca cb : Nat} (F : Fr h₀ L s.heap m) (N : News h₀ L s.heap news)
    (ha : (a, tupOf #[.int f0 u0, .int f1 u1] ca) ∈ news) (hb : (b, tupOf #[.int l0 w0, .int l1 w1] cb) ∈ news)
    (hc : wpAny M A (call (.ref f) [.int n t, .ref a, .ref b] []) (CutI (Drawn n f0 f1 l0 l1) h₀ L m news s) E s)
    (hk : ∀ (r : Int) (t' : Tok) (h : Heap) (tk : Nat), Drawn n f0 f1 l0 l1 r → Fr h₀ L h m → News h₀ L h news → Q (.int r t') { s with heap := h, toks := tk }) :
    wpAny M A (call (.ref f) [.int n t, .ref a, .ref b] []) Q E s := by
  refine wpAny_mono hc (fun v s₂ hq => ?_) fun _ _ h => h
  obtain ⟨r, t', h, tk, rfl, rfl, F', N', hp⟩ := hq
  exact hk r t' h tk hp F' N'

/-- the cut of a call that gives True and changes nothing -/
def CutB (h₀ : Heap) (L : Addr) (m : Str → Option Value) (news : List (Addr × Obj)) (s : Shared) (v : Value) (s' : Shared) : Prop :=
  ∃ (h : Heap) (tk : Nat), v = .bool true ∧ s' = { s with heap := h, toks := tk } ∧ Fr h₀ L h m ∧ News h₀ L h news
theorem CutB.intro {h₀ h : Heap} {L : Addr} {m : Str → Option Value} {news news' : List (Addr × Obj)} {s : Shared} {tk : Nat} {b : Bool}
    (F : Fr h₀ L h m) (N : News h₀ L h news') (hn : ∀ p ∈ news, p ∈ news') (hb : b = true) : CutB h₀ L m news s (.bool b) { s with heap := h, toks := tk } := by
  subst hb; exact ⟨h, tk, rfl, rfl, F, fun p q => N p (hn p q)⟩
/-- the cut of a call of _law_is_right: the data stand as letters, all else of the ledger as one letter -/
theorem cut_right {f a b l : Addr} {f0 f1 l0 l1 : Int} {u0 u1 w0 w1 : Tok} {ca cb nn : Nat} {vs : List Value} {ns : List Int} (F : Fr h₀ L s.heap m) (N : News h₀ L s.heap news)
    (ha : (a, tupOf #[.int f0 u0, .int f1 u1] ca) ∈ news) (hb : (b, tupOf #[.int l0 w0, .int l1 w1] cb) ∈ news) (hl : (l, listOf vs.toArray nn) ∈ news) (his : IntsAre vs ns) (hns : ∀ n ∈ ns, -100000000000 ≤ n ∧ n ≤ 100000000000)
    (hf0 : -100000000000 ≤ f0 ∧ f0 ≤ 100000000000) (hf1 : -100000000000 ≤ f1 ∧ f1 ≤ 100000000000) (hl0 : -100000000000 ≤ l0 ∧ l0 ≤ 100000000000) (hl1 : -100000000000 ≤ l1 ∧ l1 ≤ 100000000000)
    (hc : ∀ (f0 f1 l0 l1 : Int) (u0 u1 w0 w1 : Tok) (ca cb nn : Nat) (vs : List Value) (ns : List Int) (own : List (Addr × Obj)), IntsAre vs ns → (∀ n ∈ ns, -100000000000 ≤ n ∧ n ≤ 100000000000) →
      (-100000000000 ≤ f0 ∧ f0 ≤ 100000000000) → (-100000000000 ≤ f1 ∧ f1 ≤ 100000000000) → (-100000000000 ≤ l0 ∧ l0 ≤ 100000000000) → (-100000000000 ≤ l1 ∧ l1 ≤ 100000000000) →
      News h₀ L s.heap ((a, tupOf #[.int f0 u0, .int f1 u1] ca) :: (b, tupOf #[.int l0 w0, .int l1 w1] cb) :: (l, listOf vs.toArray nn) :: own) →
      wpAny M A (call (.ref f) [.ref a, .ref b, .ref l] []) (CutB h₀ L m ((a, tupOf #[.int f0 u0, .int f1 u1] ca) :: (b, tupOf #[.int l0 w0, .int l1 w1] cb) :: (l, listOf vs.toArray nn) :: own) s) E s)
    (hk : ∀ (h : Heap) (tk : Nat), Fr h₀ L h m → News h₀ L h news → Q (.bool true) { s with heap := h, toks := tk }) :
    wpAny M A (call (.ref f) [.ref a, .ref b, .ref l] []) Q E s := by
  refine wpAny_mono (hc f0 f1 l0 l1 u0 u1 w0 w1 ca cb nn vs ns news his hns hf0 hf1 hl0 hl1 fun x hx => ?_) (fun v s₂ hq => ?_) fun _ _ h => h
  · rcases List.mem_cons.mp hx with rfl | hx
    · exact N _ ha
    · rcases List.mem_cons.mp hx with rfl | hx
      · exact N _ hb
      · rcases List.mem_cons.mp hx with rfl | hx
        · exact N _ hl
        · exact N _ hx
  · obtain ⟨h, tk, rfl, rfl, F', N'⟩ := hq
    exact hk h tk F' fun x hx => N' x (List.mem_cons_of_mem _ (List.mem_cons_of_mem _ (List.mem_cons_of_mem _ hx)))
theorem cut_near {f : Addr} {x y z : Int} {t1 t2 t3 : Tok} (F : Fr h₀ L s.heap m) (N : News h₀ L s.heap news) (hn : NearP x y z)
    (hc : ∀ (x y z : Int) (t1 t2 t3 : Tok), NearP x y z → wpAny M A (call (.ref f) [.int x t1, .int y t2, .int z t3] []) (CutB h₀ L m news s) E s)
    (hk : ∀ (h : Heap) (tk : Nat), Fr h₀ L h m → News h₀ L h news → Q (.bool true) { s with heap := h, toks := tk }) :
    wpAny M A (call (.ref f) [.int x t1, .int y t2, .int z t3] []) Q E s := by
  refine wpAny_mono (hc x y z t1 t2 t3 hn) (fun v s₂ hq => ?_) fun _ _ h => h
  obtain ⟨h, tk, rfl, rfl, F', N'⟩ := hq
  exact hk h tk F' N'
end

section
variable {prog : Program} {w : World} {A : Around} {E : Value → Shared → Prop} {s : Shared} {h₀ : Heap} {L : Addr} {m : Str → Option Value} {news : List (Addr × Obj)} {Q : Value → Shared → Prop} {value slice : PySem.Expr}
theorem my_tup0 {a : Addr} {x y : Int} {u v t : Tok} {c : Nat} (N : News h₀ L s.heap news) (hm : (a, tupOf #[.int x u, .int y v] c) ∈ news) (h : Q (.int x u) s)
    (hs : subscripted slice false (.ref a) (.int 0 t) = operate [.ref a, .int 0 t] (getItem (.ref a) (.int 0 t)) := by with_unfolding_all rfl) :
    wpAny (model prog w) A (subscriptTail value slice (.ref a) (.int 0 t)) Q E s :=
  item_tupleT (l := [.int x u, .int y v]) (j := 0) ⟨_, (N _ hm).1, rfl, _, rfl⟩ (by decide) (by decide) rfl rfl h hs
theorem my_tup1 {a : Addr} {x y : Int} {u v t : Tok} {c : Nat} (N : News h₀ L s.heap news) (hm : (a, tupOf #[.int x u, .int y v] c) ∈ news) (h : Q (.int y v) s)
    (hs : subscripted slice false (.ref a) (.int 1 t) = operate [.ref a, .int 1 t] (getItem (.ref a) (.int 1 t)) := by with_unfolding_all rfl) :
    wpAny (model prog w) A (subscriptTail value slice (.ref a) (.int 1 t)) Q E s :=
  item_tupleT (l := [.int x u, .int y v]) (j := 1) ⟨_, (N _ hm).1, rfl, _, rfl⟩ (by decide) (by decide) rfl rfl h hs
theorem my_item {l : Addr} {vs : List Value} {ns : List Int} {nn : Nat} {k : Int} {u : Tok} (lo hi : Int) (N : News h₀ L s.heap news) (hm : (l, listOf vs.toArray nn) ∈ news) (his : IntsAre vs ns) (h0 : 0 ≤ k) (h1 : k < ns.length) (hfit : k < 2 ^ 63) (hb : ∀ x ∈ ns, lo ≤ x ∧ x ≤ hi)
    (h : ∀ (v : Int) (t : Tok), lo ≤ v → v ≤ hi → Q (.int v t) s)
    (hs : subscripted slice false (.ref l) (.int k u) = operate [.ref l, .int k u] (getItem (.ref l) (.int k u)) := by with_unfolding_all rfl) :
    wpAny (model prog w) A (subscriptTail value slice (.ref l) (.int k u)) Q E s := by
  refine ksa_sub N hm his h0 h1 hfit (fun t => ?_) hs
  have hj : k.toNat < ns.length := by omega
  have e : ns.getD k.toNat 0 = ns[k.toNat] := by simp [List.getD, hj]
  have hb' := hb _ (List.getElem_mem hj)
  rw [e]
  exact h _ t hb'.1 hb'.2
end

section
variable {prog : Program} {w : World} {A : Around} {E : Value → Shared → Prop} {s : Shared} {h₀ : Heap} {L D : Addr} {m : Str → Option Value} {news news' : List (Addr × Obj)} {value slice : PySem.Expr}
theorem my_lst0 {x y : Int} {u v t : Tok} {c : Nat} {Q : Value → Shared → Prop} (N : News h₀ L s.heap news) (hm : (D, listOf #[.int x u, .int y v] c) ∈ news) (h : Q (.int x u) s)
    (hs : subscripted slice false (.ref D) (.int 0 t) = operate [.ref D, .int 0 t] (getItem (.ref D) (.int 0 t)) := by with_unfolding_all rfl) (hg : ∀ r, letTemporaryGo value (.ref D) r = pure () := by intro _; with_unfolding_all rfl) :
    wpAny (model prog w) A (subscriptTail value slice (.ref D) (.int 0 t)) Q E s :=
  kim_list (l := [.int x u, .int y v]) N hm rfl rfl (by decide) (by decide) rfl h hs hg
theorem my_lst1 {x y : Int} {u v t : Tok} {c : Nat} {Q : Value → Shared → Prop} (N : News h₀ L s.heap news) (hm : (D, listOf #[.int x u, .int y v] c) ∈ news) (h : Q (.int y v) s)
    (hs : subscripted slice false (.ref D) (.int 1 t) = operate [.ref D, .int 1 t] (getItem (.ref D) (.int 1 t)) := by with_unfolding_all rfl) (hg : ∀ r, letTemporaryGo value (.ref D) r = pure () := by intro _; with_unfolding_all rfl) :
    wpAny (model prog w) A (subscriptTail value slice (.ref D) (.int 1 t)) Q E s :=
  kim_list (l := [.int x u, .int y v]) N hm rfl rfl (by decide) (by decide) rfl h hs hg
theorem my_set0 {x y z : Int} {u v t k : Tok} {n : Nat} {Q : Unit → Shared → Prop} (F : Fr h₀ L s.heap m) (N : News h₀ L s.heap ((D, listOf #[.int x u, .int y v] n) :: news)) (hd : ∀ p ∈ news, p.1 ≠ D) (hz : 0 ≤ z)
    (h : ∀ (z' : Int) (h' : Heap), 0 ≤ z' → Fr h₀ L h' m → News h₀ L h' ((D, listOf #[.int z' k, .int y v] n) :: news) → Q () { s with heap := h' }) :
    wpAny (model prog w) A (setItem (.ref D) (.int 0 t) (.int z k)) Q E s :=
  ksa_set (vs := [.int x u, .int y v]) (ns := [x, y]) F N (.head hd) (.cons _ _ (.cons _ _ .nil)) (by decide) (by simp) (by decide) fun h' F' N' _ _ _ => h z h' hz F' N'
theorem my_set1 {x y z : Int} {u v t k : Tok} {n : Nat} {Q : Unit → Shared → Prop} (F : Fr h₀ L s.heap m) (N : News h₀ L s.heap ((D, listOf #[.int x u, .int y v] n) :: news)) (hd : ∀ p ∈ news, p.1 ≠ D) (hz : 0 ≤ z ∧ z < 2147483647)
    (h : ∀ (z' : Int) (h' : Heap), 0 ≤ z' → z' < 2147483647 → Fr h₀ L h' m → News h₀ L h' ((D, listOf #[.int x u, .int z' k] n) :: news) → Q () { s with heap := h' }) :
    wpAny (model prog w) A (setItem (.ref D) (.int 1 t) (.int z k)) Q E s :=
  ksa_set (vs := [.int x u, .int y v]) (ns := [x, y]) F N (.head hd) (.cons _ _ (.cons _ _ .nil)) (by decide) (by simp) (by decide) fun h' F' N' _ _ _ => h z h' hz.1 hz.2 F' N'
end

theorem fdiv2 (x : Int) : x.fdiv 2 = x / 2 := Int.fdiv_eq_ediv_of_nonneg _ (by decide)
theorem pos_ne {b : Int} (h : 1 ≤ b) : b ≠ 0 := by omega
theorem fmod_b {a b : Int} (h : 1 ≤ b) : 0 ≤ a.fmod b ∧ a.fmod b < b := by
  have f := (fdiv_fmod_facts a b).2.2.1 (by omega)
  exact ⟨f.1, f.2⟩
theorem fdiv_b {a b : Int} (h0 : 0 ≤ a) (h : 1 ≤ b) : 0 ≤ a.fdiv b := Int.fdiv_nonneg h0 (by omega)

/-- the ledger with one entry taken out -/
inductive Sel (d : Addr) (o : Obj) : List (Addr × Obj) → List (Addr × Obj) → Prop
  | head {r} : Sel d o ((d, o) :: r) r
  | tail {p r r'} : Sel d o r r' → Sel d o (p :: r) (p :: r')
theorem Sel.sub {d : Addr} {o : Obj} : ∀ {news rest : List (Addr × Obj)}, Sel d o news rest → ∀ p ∈ (d, o) :: rest, p ∈ news
  | _, _, .head, _, hp => hp
  | _, _, .tail (p := q) h, p, hp => by
    rcases List.mem_cons.mp hp with rfl | hp
    · exact List.mem_cons_of_mem _ (Sel.sub h _ (List.mem_cons_self ..))
    · rcases List.mem_cons.mp hp with rfl | hp
      · exact List.mem_cons_self ..
      · exact List.mem_cons_of_mem _ (Sel.sub h _ (List.mem_cons_of_mem _ hp))

theorem pow109 : (10 : Int) ^ Int.toNat 9 = 1000000000 := by decide
/-- the end of a comprehension's element: its own three entries taken out of the ledger -/
theorem comp_end {h₀ : Heap} {L I C D : Addr} {m : Str → Option Value} {s₁ : Shared} {oI oC oD : Obj} {S : List (Addr × Obj) → Prop} {rest : Value → List (Addr × Obj) → Prop} {y : Value} {h' : Heap} {tk : Nat} {n0 n1 n2 n3 : List (Addr × Obj)}
    (F : Fr h₀ L h' m) (N : News h₀ L h' n0) (s1 : Sel I oI n0 n1) (s2 : Sel C oC n1 n2) (s3 : Sel D oD n2 n3) (off : LCg.Off3 I C D n3) (hS : S n3) (r : rest y n3) :
    LCg.CompEnd h₀ L m s₁ I oI C oC D oD S rest y { s₁ with heap := h', toks := tk } := by
  refine LCg.CompEnd.intro F N n3 (fun p hp => ?_) off hS r
  rcases List.mem_cons.mp hp with rfl | hp
  · exact s1.sub _ (List.mem_cons_self ..)
  · refine s1.sub _ (List.mem_cons_of_mem _ ?_)
    rcases List.mem_cons.mp hp with rfl | hp
    · exact s2.sub _ (List.mem_cons_self ..)
    · refine s2.sub _ (List.mem_cons_of_mem _ ?_)
      rcases List.mem_cons.mp hp with rfl | hp
      · exact s3.sub _ (List.mem_cons_self ..)
      · exact s3.sub _ (List.mem_cons_of_mem _ hp)

theorem off_sel {I C D d : Addr} {o o' : Obj} : ∀ {old rest : List (Addr × Obj)}, Sel d o old rest → LCg.Off3 I C D old → LCg.Off3 I C D ((d, o') :: rest)
  | _, _, .head, h => h
  | _, _, .tail s, h => ⟨(off_sel (o' := o') s h.2).1, h.1, (off_sel (o' := o') s h.2).2⟩
/-- the end of a comprehension's element that has changed the source's list alone (it stands ahead of the ledger) -/
theorem comp_end2 {h₀ : Heap} {L I C D d : Addr} {m : Str → Option Value} {s₁ : Shared} {oI oC oD o o' : Obj} {S : List (Addr × Obj) → Prop} {rest : Value → List (Addr × Obj) → Prop} {y : Value} {h' : Heap} {tk : Nat} {cur old keep : List (Addr × Obj)}
    (F : Fr h₀ L h' m) (N : News h₀ L h' ((d, o') :: cur)) (off0 : LCg.Off3 I C D old) (s0 : Sel d o old keep) (hsub : ∀ x ∈ (I, oI) :: (C, oC) :: (D, oD) :: keep, x ∈ cur) (hS : S ((d, o') :: keep)) (r : rest y ((d, o') :: keep)) :
    LCg.CompEnd h₀ L m s₁ I oI C oC D oD S rest y { s₁ with heap := h', toks := tk } := by
  refine LCg.CompEnd.intro F N ((d, o') :: keep) (fun p hp => ?_) (off_sel s0 off0) hS r
  rcases List.mem_cons.mp hp with rfl | hp
  · exact List.mem_cons_of_mem _ (hsub _ (List.mem_cons_self ..))
  · rcases List.mem_cons.mp hp with rfl | hp
    · exact List.mem_cons_of_mem _ (hsub _ (List.mem_cons_of_mem _ (List.mem_cons_self ..)))
    · rcases List.mem_cons.mp hp with rfl | hp
      · exact List.mem_cons_of_mem _ (hsub _ (List.mem_cons_of_mem _ (List.mem_cons_of_mem _ (List.mem_cons_self ..))))
      · rcases List.mem_cons.mp hp with rfl | hp
        · exact List.mem_cons_self ..
        · exact List.mem_cons_of_mem _ (hsub _ (List.mem_cons_of_mem _ (List.mem_cons_of_mem _ (List.mem_cons_of_mem _ hp))))

/-- the end of a call of _law_take: an int below top, the source's two ints anew -/
def CutT (top : Int) (d : Addr) (n : Nat) (h₀ : Heap) (L : Addr) (m : Str → Option Value) (rest : List (Addr × Obj)) (s : Shared) (v : Value) (s' : Shared) : Prop :=
  ∃ (r : Int) (t : Tok) (p : Int) (tp : Tok) (q : Int) (tq : Tok) (h : Heap) (tk : Nat), v = .int r t ∧ s' = { s with heap := h, toks := tk } ∧ Fr h₀ L h m ∧ News h₀ L h ((d, listOf #[.int p tp, .int q tq] n) :: rest) ∧ (0 ≤ r ∧ r < top) ∧ 0 ≤ p ∧ (0 ≤ q ∧ q < 2147483647)
theorem CutT.intro {top : Int} {d : Addr} {n : Nat} {h₀ h : Heap} {L : Addr} {m : Str → Option Value} {rest news' : List (Addr × Obj)} {s : Shared} {r p q : Int} {t tp tq : Tok} {tk : Nat}
    (F : Fr h₀ L h m) (N : News h₀ L h news') (hm : (d, listOf #[.int p tp, .int q tq] n) ∈ news') (hn : ∀ x ∈ rest, x ∈ news') (hr : 0 ≤ r ∧ r < top) (hp : 0 ≤ p) (hq : 0 ≤ q ∧ q < 2147483647) :
    CutT top d n h₀ L m rest s (.int r t) { s with heap := h, toks := tk } :=
  ⟨r, t, p, tp, q, tq, h, tk, rfl, rfl, F, fun x hx => by
    rcases List.mem_cons.mp hx with rfl | hx
    · exact N _ hm
    · exact N _ (hn _ hx), hr, hp, hq⟩

/-- the end of a call of _law_pool: a new list of two ints -/
def CutP (h₀ : Heap) (L : Addr) (m : Str → Option Value) (news : List (Addr × Obj)) (s : Shared) (v : Value) (s' : Shared) : Prop :=
  ∃ (d : Addr) (p : Int) (tp : Tok) (q : Int) (tq : Tok) (h : Heap) (tk : Nat), v = .ref d ∧ s' = { s with heap := h, toks := tk } ∧ Fr h₀ L h m ∧ News h₀ L h ((d, listOf #[.int p tp, .int q tq] 0) :: news) ∧ (∀ x ∈ news, x.1 < d) ∧ 0 ≤ p ∧ (0 ≤ q ∧ q < 2147483647)
theorem CutP.intro {d : Addr} {h₀ h : Heap} {L : Addr} {m : Str → Option Value} {news news' : List (Addr × Obj)} {s : Shared} {p q : Int} {tp tq : Tok} {tk : Nat}
    (F : Fr h₀ L h m) (N : News h₀ L h news') (hm : (d, listOf #[.int p tp, .int q tq] 0) ∈ news') (hn : ∀ x ∈ news, x ∈ news') (hl : AllLt d news) (hp : 0 ≤ p) (hq : 0 ≤ q ∧ q < 2147483647) :
    CutP h₀ L m news s (.ref d) { s with heap := h, toks := tk } :=
  ⟨d, p, tp, q, tq, h, tk, rfl, rfl, F, fun x hx => by
    rcases List.mem_cons.mp hx with rfl | hx
    · exact N _ hm
    · exact N _ (hn _ hx), kst_ltOf hl, hp, hq⟩

section
variable {M : Model} {A : Around} {E : Value → Shared → Prop} {s : Shared} {h₀ : Heap} {L : Addr} {m : Str → Option Value} {news rest : List (Addr × Obj)} {Q : Value → Shared → Prop}
theorem cut_take {f d : Addr} {top p q : Int} {t tp tq : Tok} {n : Nat} (F : Fr h₀ L s.heap m) (N : News h₀ L s.heap news)
    (hs : Sel d (listOf #[.int p tp, .int q tq] n) news rest) (hd : ∀ x ∈ rest, x.1 ≠ d) (hp : 0 ≤ p) (hq : 0 ≤ q ∧ q < 2147483647) (ht : 1 ≤ top ∧ top ≤ 1000000000000)
    (hc : ∀ (p q top : Int) (t tp tq : Tok) (rest : List (Addr × Obj)), KstMark → (∀ x ∈ rest, x.1 ≠ d) → 0 ≤ p → 0 ≤ q → q < 2147483647 → 1 ≤ top → top ≤ 1000000000000 → News h₀ L s.heap ((d, listOf #[.int p tp, .int q tq] n) :: rest) →
      wpAny M A (call (.ref f) [.ref d, .int top t] []) (CutT top d n h₀ L m rest s) E s)
    (hk : ∀ (r : Int) (t' : Tok) (p' : Int) (tp' : Tok) (q' : Int) (tq' : Tok) (h : Heap) (tk : Nat), Fr h₀ L h m → News h₀ L h ((d, listOf #[.int p' tp', .int q' tq'] n) :: rest) → 0 ≤ r → r < top → 0 ≤ p' → 0 ≤ q' → q' < 2147483647 → Q (.int r t') { s with heap := h, toks := tk }) :
    wpAny M A (call (.ref f) [.ref d, .int top t] []) Q E s := by
  refine wpAny_mono (hc p q top t tp tq rest kstMark hd hp hq.1 hq.2 ht.1 ht.2 fun x hx => N x (hs.sub x hx)) (fun v s₂ hv => ?_) fun _ _ h => h
  obtain ⟨r, t', p', tp', q', tq', h, tk, rfl, rfl, F', N', hr, hp', hq'⟩ := hv
  exact hk r t' p' tp' q' tq' h tk F' N' hr.1 hr.2 hp' hq'.1 hq'.2
theorem cut_pool {f l : Addr} (F : Fr h₀ L s.heap m) (N : News h₀ L s.heap news)
    (hc : KstMark → wpAny M A (call (.ref f) [.ref l] []) (CutP h₀ L m news s) E s)
    (hk : ∀ (d : Addr) (p : Int) (tp : Tok) (q : Int) (tq : Tok) (h : Heap) (tk : Nat), Fr h₀ L h m → News h₀ L h ((d, listOf #[.int p tp, .int q tq] 0) :: news) → (∀ x ∈ news, x.1 < d) → 0 ≤ p → 0 ≤ q → q < 2147483647 → Q (.ref d) { s with heap := h, toks := tk }) :
    wpAny M A (call (.ref f) [.ref l] []) Q E s := by
  refine wpAny_mono (hc kstMark) (fun v s₂ hv => ?_) fun _ _ h => h
  obtain ⟨d, p', tp', q', tq', h, tk, rfl, rfl, F', N', hl, hp', hq'⟩ := hv
  exact hk d p' tp' q' tq' h tk F' N' hl hp' hq'.1 hq'.2
end

theorem turns_end {h₀ : Heap} {L d c : Addr} {oc : Obj} {nn : Nat} {x : Str} {stored : List Str} {m' m₀ : Str → Option Value} {own news' : List (Addr × Obj)} {pre : List Int} {s₁ : Shared} {h' : Heap} {tk : Nat} {p q : Int} {tp tq : Tok}
    (F : Fr h₀ L h' m') (N : News h₀ L h' news') (hm : (d, listOf #[.int p tp, .int q tq] nn) ∈ news') (hcm : (c, oc) ∈ news') (ho : ∀ p ∈ own, p ∈ news') (hp : 0 ≤ p) (hq : 0 ≤ q) (hq2 : q < 2147483647)
    (hr : ∀ z, z ≠ x → (∀ p ∈ ([] : List (Str × Value)), z ≠ p.1) → stored.contains z = false → m' z = m₀ z) :
    InvEndN h₀ L (KstS (fun e : Int × Tok × Int × Tok => [(d, listOf #[.int e.1 e.2.1, .int e.2.2.1 e.2.2.2] nn), (c, oc)]) (fun _ => []) (fun c => 0 ≤ c.1 ∧ 0 ≤ c.2.2.1 ∧ c.2.2.1 < 2147483647) x stored m₀ (fun _ _ => True) pre) own [d, c] s₁ { s₁ with heap := h', toks := tk } :=
  kst_end (p, tp, q, tq) F N (fun y hy => by
    rcases List.mem_cons.mp hy with rfl | hy
    · exact hm
    · rw [List.mem_singleton] at hy; subst hy; exact hcm) ho rfl ⟨hp, hq, hq2⟩ (fun _ h => nomatch h) hr trivial

section
variable {prog : Program} {w : World} {A : Around} {E : Value → Shared → Prop} {s : Shared} {env : Env} {h₀ : Heap} {x : Str} {body : List Stmt} {Q : Flow → Shared → Prop}
/-- the loop over a range whose turns change the source's two ints -/
theorem my_turns {r d : Addr} {a₀ b₀ : Int} {t₀ u₀ v₀ : Tok} {n nn : Nat} {p0 q0 : Int} {tp0 tq0 : Tok} {m₀ : Str → Option Value} {L : Addr} {news : List (Addr × Obj)} (stored : List Str) (hL : env.locals = L)
    (hh : A.handled = none) (hr : IsRange s.heap r a₀ b₀ 1 t₀ u₀ v₀) (hsmall : Builtin.Range.small a₀ b₀ 1 = true) (hn : Builtin.Range.rangeSize a₀ b₀ 1 = (n : Int)) (F : Fr h₀ L s.heap m₀) (N : News h₀ L s.heap news)
    (hs : (d, listOf #[.int p0 tp0, .int q0 tq0] nn) ∈ news) {c : Addr} {oc : Obj} (hcd : oc.data = .cell (some (.ref d))) (hcm : (c, oc) ∈ news) (hp : 0 ≤ p0) (hq : 0 ≤ q0 ∧ q0 < 2147483647)
    (turn : ∀ (pre : List Int) (k : Int) (t : Tok) (u : Str → Option Value) (h : Heap) (tk : Nat) (own : List (Addr × Obj)) (p : Int) (tp : Tok) (q : Int) (tq : Tok), KstMark → OwnOff own [d, c] → 0 ≤ p → 0 ≤ q → q < 2147483647 →
      Fr h₀ L h (fun y => if y = x then some (.int k t) else if stored.contains y then u y else m₀ y) → News h₀ L h ((d, listOf #[.int p tp, .int q tq] nn) :: (c, oc) :: own) →
      wpAny (model prog w) A (execs body env) (InvPostN h₀ L (KstS (fun e : Int × Tok × Int × Tok => [(d, listOf #[.int e.1 e.2.1, .int e.2.2.1 e.2.2.2] nn), (c, oc)]) (fun _ => []) (fun c => 0 ≤ c.1 ∧ 0 ≤ c.2.2.1 ∧ c.2.2.1 < 2147483647) x stored m₀ (fun _ _ => True) (pre ++ [k])) own [d, c] { s with heap := h, toks := tk } Q) E { s with heap := h, toks := tk })
    (done : ∀ (u : Str → Option Value) (h : Heap) (tk : Nat) (p : Int) (tp : Tok) (q : Int) (tq : Tok), Fr h₀ L h (fun y => if y = x then u y else if stored.contains y then u y else m₀ y) → News h₀ L h ((d, listOf #[.int p tp, .int q tq] nn) :: [(c, oc)]) → Q .next { s with heap := h, toks := tk }) :
    wpAny (model prog w) A (pyIter (.ref r)) (fun it s₂ => LoopAtV prog w A h₀ env x body Q E it s₂) E s := by
  subst hL
  refine kst_range (fun e : Int × Tok × Int × Tok => [(d, listOf #[.int e.1 e.2.1, .int e.2.2.1 e.2.2.2] nn), (c, oc)]) (fun _ => []) (fun c => 0 ≤ c.1 ∧ 0 ≤ c.2.2.1 ∧ c.2.2.1 < 2147483647) stored (fun _ _ => True) (p0, tp0, q0, tq0) hh hr hsmall hn F (fun x hx => by rcases List.mem_cons.mp hx with rfl | hx; exact N _ hs; rw [List.mem_singleton] at hx; subst hx; exact N _ hcm) ⟨hp, hq.1, hq.2⟩ (fun _ h => nomatch h) trivial ?_ ?_
  · rintro ⟨p, tp, q, tq⟩ pre k t u h tk own _ _ ho ⟨f1, f2, f3⟩ _ F₁ N₁
    exact turn pre k t u h tk own p tp q tq kstMark ho f1 f2 f3 F₁ N₁
  · rintro ⟨p, tp, q, tq⟩ u h tk _ _ F₁ N₁
    exact done u h tk p tp q tq F₁ N₁
end
end Mine


local macro_rules | `(tactic| walk_at "exec For Name Name cons nil") => `(tactic| (k_here; (rename Fr _ _ _ _ => lF'); (with_unfolding_all refine' For_invVF lF' ?k1 ?k2 ?_; (case k1 => exact rfl); (case k2 => exact rfl); k_whole); walk_say "MY FOR"))
local macro_rules | `(tactic| walk_at "pyIter ref") => `(tactic| ((with_reducible show wpAny _ _ (pyIter (Value.ref _)) (fun it s₂ => LoopAtV _ _ _ _ _ _ _ _ _ it s₂) _ _); k_here; (rename Fr _ _ _ _ => lF'); (rename News _ _ _ _ => lN'); k_dflt ((with_unfolding_all refine' Mine.my_loop [Str.ofString "told"] (-100000000000) 100000000000 ?kL (by rfl) ?kl ?ki ?kb lF' lN' ?_ ?_); (case kL => exact rfl); (case kl => with_reducible (repeat (first | exact List.mem_cons_self | refine List.mem_cons_of_mem _ ?_))); (case ki => assumption); (case kb => assumption); (all_goals (try clear lF' lN')); (all_goals first | (intro (kPre : List Int) kN kT kU kH kTk kOwn kMark kB kOff kFr kNews; (try dsimp only at kNews); (try simp only [List.nil_append, List.cons_append, List.append_nil] at kNews); (try dsimp only at kOff); (try simp only [List.map_cons, List.map_nil] at kOff); (try k_fold)) | (intro kU kH kTk kFr kNews; (try dsimp only at kNews); (try k_fold)))); walk_say "MY LOOP"))
local macro_rules | `(tactic| walk_at "call ref") => `(tactic| (k_here; (with_reducible show wpAny _ _ (call (Value.ref _) [Value.int _ _, Value.ref _, Value.ref _]) _ _ _); (rename Fr _ _ _ _ => cF'); (rename News _ _ _ _ => cN'); k_dflt ((refine' Mine.cut_drawn cF' cN' ?ka ?kb ?_ ?_); (case ka => with_reducible (repeat (first | exact List.mem_cons_self | refine List.mem_cons_of_mem _ ?_))); (case kb => with_reducible (repeat (first | exact List.mem_cons_self | refine List.mem_cons_of_mem _ ?_))); (all_goals first | (intro (r' : Int) t' h' tk' kD F' N'; (try k_sweep); (try k_fold)) | (refine wpAny_call ?_; k_enter))); walk_say "CUT drawn"))
local macro_rules | `(tactic| walk_at "call ref") => `(tactic| (k_here; (with_reducible show wpAny _ _ (call (Value.ref _) [Value.int _ _, Value.int _ _, Value.int _ _]) _ _ _); (rename Mine.Drawn _ _ _ _ _ _ => kD'); (rename Fr _ _ _ _ => cF'); (rename News _ _ _ _ => cN'); k_dflt ((refine' Mine.cut_near cF' cN' (Mine.drawn_near kD' ?ka ?kb) ?_ ?_); (case ka => with_reducible assumption); (case kb => with_reducible assumption); (all_goals first | (intro (x' : Int) y' z' t1' t2' t3' hn'; (have hn1 := hn'.1); (have hn2 := hn'.2.1); refine wpAny_call ?_; k_enter) | (intro (h' : Heap) tk' F' N'; (try k_sweep); (try k_fold)))); walk_say "CUT near"))
local macro_rules | `(tactic| walk_at "CutI") => `(tactic| (k_dflt (refine Mine.CutI.intro (by assumption) (by with_reducible assumption) (fun x hx => hx) ?_); (with_reducible first | exact Mine.drawn_A (by assumption) | exact Mine.drawn_B (by assumption) (by assumption) | exact Mine.drawn_C (by assumption) (by assumption) (by assumption) (by assumption) (by assumption) | exact Mine.drawn_D (by assumption) (by assumption) (by assumption) (by assumption) (by assumption)); walk_say "END drawn"))
local macro_rules | `(tactic| walk_at "CutB") => `(tactic| (k_dflt ((first | (refine Mine.CutB.intro (by assumption) (by with_reducible assumption) (fun x hx => hx) ?_) | (refine Mine.CutB.intro (by assumption) (by assumption) (by kcj_all) ?_)); (first | exact rfl | exact decide_eq_true (by assumption) | exact Mine.near_e2 (by assumption) (by assumption) (by assumption) | exact rfl | exact (Mine.near_e3 (by assumption) (by assumption) (by assumption)).elim)); walk_say "END near"))
local macro_rules | `(tactic| walk_at "call ref") => `(tactic| (k_here; (with_reducible show wpAny _ _ (call (Value.ref _) [Value.ref _, Value.ref _, Value.ref _]) _ _ _); (rename Fr _ _ _ _ => cF'); (rename News _ _ _ _ => cN'); k_dflt ((refine' Mine.cut_right cF' cN' ?ka ?kb ?kl ?ki ?kn ?k0 ?k1 ?k2 ?k3 ?_ ?_); (case ka => with_reducible (repeat (first | exact List.mem_cons_self | refine List.mem_cons_of_mem _ ?_))); (case kb => with_reducible (repeat (first | exact List.mem_cons_self | refine List.mem_cons_of_mem _ ?_))); (case kl => with_reducible (repeat (first | exact List.mem_cons_self | refine List.mem_cons_of_mem _ ?_))); (case ki => (repeat' constructor)); (case kn => first | assumption | (simp only [List.forall_mem_cons, List.not_mem_nil, false_implies, implies_true, and_true, Mine.pow109, Mine.fdiv2]; done) | (simp only [List.forall_mem_cons, List.not_mem_nil, false_implies, implies_true, and_true, Mine.pow109, Mine.fdiv2]; omega)); (case k0 => omega); (case k1 => omega); (case k2 => omega); (case k3 => omega); (all_goals first | (intro (f0' : Int) f1' l0' l1' u0' u1' w0' w1' ca' cb' nn' vs' ns' own' his' hns' hf0' hf1' hl0' hl1' N'; clear cN'; refine wpAny_call ?_; k_enter) | (intro (h' : Heap) tk' F' N'; (try k_sweep); (try k_fold)))); walk_say "CUT right"))
local macro_rules | `(tactic| walk_at "ite") => `(tactic| (k_here; (rename Mine.Drawn _ _ _ _ _ _ => kD'); with_reducible (first | (refine PySem.W.ite_neg (Mine.drawn_dec1 kD' ?k1) ?_; (case k1 => assumption)) | (refine PySem.W.ite_neg (Mine.drawn_dec2 kD' ?k1 ?k2) ?_; (case k1 => assumption); (case k2 => assumption)))))
local macro_rules | `(tactic| walk_at "InvEndN") => `(tactic| (k_dflt (refine Mine.loop_end (by assumption) (by with_reducible assumption) ?k1 ?k2; (case k1 => with_reducible kcf_all); (case k2 => with_reducible kcf_all)); walk_say "END loop"))
local macro_rules | `(tactic| walk_at "binaryOp FloorDiv int int") => `(tactic| (k_here; (with_reducible show wpAny _ _ (binaryOp _ (Value.int _ _) (Value.int (2 * (_ - _)) _)) _ _ _); k_dflt (refine' floordiv_int (Mine.two_ne ?k1 ?k2) ?_); (case k1 => with_reducible assumption); (case k2 => with_reducible assumption)))
local macro_rules | `(tactic| walk_at "subscriptTail Name Constant ref int") => `(tactic| (k_here; k_dflt (first | ((with_reducible show wpAny _ _ (subscriptTail _ _ (Value.ref _) (Value.int 0 _)) _ _ _); refine' Mine.my_tup0 ?N ?m ?_; (case N => k_asm); (case m => with_reducible (repeat (first | exact List.mem_cons_self | refine List.mem_cons_of_mem _ ?_))); k_whole) | ((with_reducible show wpAny _ _ (subscriptTail _ _ (Value.ref _) (Value.int 1 _)) _ _ _); refine' Mine.my_tup1 ?N ?m ?_; (case N => k_asm); (case m => with_reducible (repeat (first | exact List.mem_cons_self | refine List.mem_cons_of_mem _ ?_))); k_whole) | ((with_reducible show wpAny _ _ (subscriptTail _ _ (Value.ref _) (Value.int 0 _)) _ _ _); refine' Mine.my_lst0 ?N ?m ?_; (case N => k_asm); (case m => with_reducible (repeat (first | exact List.mem_cons_self | refine List.mem_cons_of_mem _ ?_))); k_whole) | ((with_reducible show wpAny _ _ (subscriptTail _ _ (Value.ref _) (Value.int 1 _)) _ _ _); refine' Mine.my_lst1 ?N ?m ?_; (case N => k_asm); (case m => with_reducible (repeat (first | exact List.mem_cons_self | refine List.mem_cons_of_mem _ ?_))); k_whole))))
local macro_rules | `(tactic| walk_at "subscriptTail Name Call ref int") => `(tactic| (k_here; k_dflt ((first | (refine' Mine.my_item 0 1000000000 ?N ?m ?i ?k0 ?k1 ?kf ?kb ?_; (case N => k_asm); (case m => with_reducible (repeat (first | exact List.mem_cons_self | refine List.mem_cons_of_mem _ ?_))); (case i => (repeat' constructor)); (case k0 => omega); (case k1 => (simp only [List.length_cons, List.length_nil]; omega)); (case kf => omega); (case kb => first | (simp only [List.forall_mem_cons, List.not_mem_nil, false_implies, implies_true, and_true, Mine.pow109]; done) | (simp only [List.forall_mem_cons, List.not_mem_nil, false_implies, implies_true, and_true, Mine.pow109]; omega))) | (refine' Mine.my_item (-250) 250 ?N ?m ?i ?k0 ?k1 ?kf ?kb ?_; (case N => k_asm); (case m => with_reducible (repeat (first | exact List.mem_cons_self | refine List.mem_cons_of_mem _ ?_))); (case i => (repeat' constructor)); (case k0 => omega); (case k1 => (simp only [List.length_cons, List.length_nil]; omega)); (case kf => omega); (case kb => first | (simp only [List.forall_mem_cons, List.not_mem_nil, false_implies, implies_true, and_true, Mine.pow109]; done) | (simp only [List.forall_mem_cons, List.not_mem_nil, false_implies, implies_true, and_true, Mine.pow109]; omega))) | (refine' Mine.my_item (-2000000000) 2000000000 ?N ?m ?i ?k0 ?k1 ?kf ?kb ?_; (case N => k_asm); (case m => with_reducible (repeat (first | exact List.mem_cons_self | refine List.mem_cons_of_mem _ ?_))); (case i => (repeat' constructor)); (case k0 => omega); (case k1 => (simp only [List.length_cons, List.length_nil]; omega)); (case kf => omega); (case kb => first | (simp only [List.forall_mem_cons, List.not_mem_nil, false_implies, implies_true, and_true, Mine.pow109]; done) | (simp only [List.forall_mem_cons, List.not_mem_nil, false_implies, implies_true, and_true, Mine.pow109]; omega)))); (try k_whole)); intro vI tI bI1 bI2; walk_say "MY ITEM"))
local macro_rules | `(tactic| walk_at "exec For Name Call cons nil") => `(tactic| (k_here; (rename Fr _ _ _ _ => lF'); (with_unfolding_all refine' For_invVF lF' ?k1 ?k2 ?_; (case k1 => exact rfl); (case k2 => exact rfl); k_whole); walk_say "MY FOR2"))
local macro_rules | `(tactic| walk_at "pyIter ref") => `(tactic| ((with_reducible show wpAny _ _ (pyIter (Value.ref _)) (fun it s₂ => LoopAtV _ _ _ _ _ _ _ _ _ it s₂) _ _); k_here; (rename Fr _ _ _ _ => lF'); (rename News _ _ _ _ => lN'); (rename IsRange _ _ _ _ _ _ _ _ => rgX); k_dflt ((with_unfolding_all refine' Mine.my_turns [Str.ofString "begin", Str.ofString "way", Str.ofString "end", Str.ofString "moves", Str.ofString "far", Str.ofString "numbers"] ?kL (by rfl) rgX (by decide) (by rfl) lF' lN' ?ks ?kcd ?kcm ?kp ?kq ?_ ?_); (case kL => exact rfl); (case ks => with_reducible (repeat (first | exact List.mem_cons_self | refine List.mem_cons_of_mem _ ?_))); (case kcd => assumption); (case kcm => with_reducible (repeat (first | exact List.mem_cons_self | refine List.mem_cons_of_mem _ ?_))); (case kp => assumption); (case kq => (constructor <;> assumption)); (all_goals (try clear lF' lN')); (all_goals first | (intro (kPre : List Int) kN kT kU kH kTk kOwn kP ktP kQ ktQ kMark kOff kB1 kB2 kB3 kFr kNews; (try dsimp only at kNews); (try simp only [List.nil_append, List.cons_append, List.append_nil] at kNews); (try dsimp only at kOff); (try simp only [List.map_cons, List.map_nil] at kOff); (try k_fold)) | (intro kU kH kTk kP ktP kQ ktQ kFr kNews; (try dsimp only at kNews); (try k_fold)))); walk_say "MY TURNS"))
local macro_rules | `(tactic| walk_at "call ref") => `(tactic| (k_here; (with_reducible show wpAny _ _ (call (Value.ref _) [Value.ref _, Value.int _ _]) _ _ _); (rename Fr _ _ _ _ => cF'); (rename News _ _ _ _ => cN'); k_dflt ((refine' Mine.cut_take cF' cN' ?ks ?kd ?kp ?kq ?kt ?_ ?_); (case ks => with_reducible (repeat (first | exact Mine.Sel.head | apply Mine.Sel.tail))); (case kd => k_all); (case kp => assumption); (case kq => (constructor <;> assumption)); (case kt => omega); (all_goals first | (intro (p' : Int) q' top' t' tp' tq' (rest' : List (Addr × Obj)) kMk cd' c1' c2' c3' c4' c5' N'; clear cN'; refine wpAny_call ?_; k_enter) | (intro (r' : Int) t' p' tp' q' tq' h' tk' F' N' b1' b2' b3' b4' b5'; (try k_sweep); (try k_fold)))); walk_say "CUT take"))
local macro_rules | `(tactic| walk_at "CutT") => `(tactic| (k_dflt ((first | (refine Mine.CutT.intro (by assumption) (by with_reducible assumption) List.mem_cons_self (fun x hx => List.mem_cons_of_mem _ hx) ?_ ?_ ?_) | (refine Mine.CutT.intro (by assumption) (by assumption) (by with_unfolding_all k_memK) (by kcj_all) ?_ ?_ ?_)); (all_goals first | (exact Mine.fmod_b (by assumption)) | (with_reducible assumption) | (constructor <;> with_reducible assumption) | omega | (exact Mine.fmod_b (by omega)) | (exact Mine.fdiv_b (by omega) (by omega)))); walk_say "END take"))
local macro_rules | `(tactic| walk_at "call ref") => `(tactic| (k_here; (with_reducible show wpAny _ _ (call (Value.ref _) [Value.ref _]) _ _ _); (rename Fr _ _ _ _ => cF'); (rename News _ _ _ _ => cN'); k_dflt ((refine' Mine.cut_pool cF' cN' ?_ ?_); (all_goals first | (intro (d' : Addr) p' tp' q' tq' h' tk' F' N' l1 b3' b4' b5'; (try k_lt l1); (try k_sweep); (try k_fold)) | (intro (kMk : KstMark); refine wpAny_call ?_; k_enter))); walk_say "CUT pool"))
local macro_rules | `(tactic| walk_at "CutP") => `(tactic| (k_dflt ((first | (refine Mine.CutP.intro (by assumption) (by with_reducible assumption) List.mem_cons_self (fun x hx => List.mem_cons_of_mem _ hx) ?_ ?_ ?_) | (refine Mine.CutP.intro (by assumption) (by assumption) (by with_unfolding_all k_memK) (by kcj_all) ?_ ?_ ?_)); (all_goals first | assumption | (simp only [AllLt, and_true]; first | assumption | omega) | omega | (exact Mine.fmod_b (by omega)) | (exact Mine.fdiv_b (by omega) (by omega)) | (constructor <;> assumption))); walk_say "END pool"))
local macro_rules | `(tactic| walk_at "setItem ref int") => `(tactic| (k_here; k_dflt (first | ((with_reducible show wpAny _ _ (PySem.setItem (Value.ref _) (Value.int 0 _) (Value.int _ _)) _ _ _); refine' Mine.my_set0 ?F ?N ?d ?z ?_; (case F => k_asm); (case N => with_reducible assumption); (case d => with_reducible assumption); (case z => first | assumption | exact Mine.fdiv_b (by omega) (by omega)); (intro z' h' bz' F' N'; (try k_sweep))) | ((with_reducible show wpAny _ _ (PySem.setItem (Value.ref _) (Value.int 1 _) (Value.int _ _)) _ _ _); refine' Mine.my_set1 ?F ?N ?d ?z ?_; (case F => k_asm); (case N => with_reducible assumption); (case d => with_reducible assumption); (case z => first | exact Mine.fmod_b (by decide) | (constructor <;> assumption)); (intro z' h' bz' bz2' F' N'; (try k_sweep))))))
local macro_rules | `(tactic| walk_at "CompSrc") => `(tactic| (k_here; k_dflt (refine LCg.CompSrc.range (by rfl) (by k_asm) (by k_asm) (by assumption) (by first | decide | rfl) (by first | rfl | decide) (by first | size_fits | exact Nat.le_of_ble_eq_true rfl) ?_; intro g'; lcg_lit); walk_say "MY COMP"))
local macro_rules | `(tactic| walk_at "CompRest") => `(tactic| (with_unfolding_all ((refine LCg.CompRest.succ ?_); intro v' I' oI' C' oC' D' m' h' tk' E' hv' hC' hx' F' N' off' ne'; (obtain ⟨t9', hv9'⟩ := hv'); subst hv9'; (have off0 := off'); (try simp only [LCg.Off3, and_true] at off')); walk_say "MY COMPREST"))
local macro_rules | `(tactic| walk_at "CompEnd") => `(tactic| (k_dflt ((rename News _ _ _ _ => cN'); (refine' Mine.comp_end2 ?kF cN' (by assumption) ?s0 ?kS True.intro ?_); (case kF => assumption); (case s0 => (with_reducible (repeat (first | exact Mine.Sel.head | apply Mine.Sel.tail)))); (case kS => with_reducible kcf_all)); walk_say "MY COMPEND"))
local macro_rules | `(tactic| walk_at "InvEndN") => `(tactic| (k_dflt (refine' Mine.turns_end (by assumption) (by with_reducible assumption) ?k1 ?k2 ?k3 ?k4 ?k5 ?k6 ?k7; (case k1 => with_reducible (repeat (first | exact List.mem_cons_self | refine List.mem_cons_of_mem _ ?_))); (case k2 => with_reducible (repeat (first | exact List.mem_cons_self | refine List.mem_cons_of_mem _ ?_))); (case k3 => with_reducible kcf_all); (case k4 => assumption); (case k5 => assumption); (case k6 => assumption); (case k7 => kst_same)); walk_say "END turns"))
local macro_rules | `(tactic| walk_at "binaryOp FloorDiv int int") => `(tactic| (k_here; (rename (1 : Int) ≤ _ => kPos'); (with_reducible show wpAny _ _ (binaryOp Operator.FloorDiv (Value.int _ _) (Value.int _ _)) _ _ _); k_dflt (refine floordiv_int (Mine.pos_ne kPos') ?_)))
local macro_rules | `(tactic| walk_at "binaryOp Mod int int") => `(tactic| (k_here; (rename (1 : Int) ≤ _ => kPos'); (with_reducible show wpAny _ _ (binaryOp Operator.Mod (Value.int _ _) (Value.int _ _)) _ _ _); k_dflt (refine mod_int' (Mine.pos_ne kPos') ?_)))
local macro_rules | `(tactic| wrow_close) => `(tactic| (w_end; (show GoodW _ _ _ _ _ (.ok (.ret (.bool _))) _); k_dflt (exact goodW_bool (by assumption) (by assumption) (raisesW_false allW_false_nil) (postW_of rfl (w_eq_bool (w_res rfl) w_lit) rfl)); walk_say "MY CLOSE"))

set_option maxRecDepth 100000 in
set_option maxHeartbeats 16000000 in
theorem PySem.Challenge.cw_xm0701_01_holds : PySem.Challenge.rw_xm0701_01.Holds := by
  (w_on; o_law; k_head; (case hw => w_witness2); w_strict (k_go0; (all_goals try k_fold); (repeat' (first | (k_unfold; (try dsimp only)) | (k_end; wrow_close) | walk1 | (dsimp only; walk1) | (leave1; (try dsimp only))))))
