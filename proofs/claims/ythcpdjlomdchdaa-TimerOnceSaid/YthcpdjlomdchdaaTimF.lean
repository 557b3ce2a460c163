/-
  Timers: the contracts, told by a list.
-/
import Derived.Test.YthcpdjlomdchdaaTimE
namespace Go.Proofs.Ythcpdjlomdchdaa
open Go.RowKit
set_option linter.unusedSimpArgs false
set_option linter.unusedVariables false

abbrev Tl := List (Int × Int)
/-- Those of another id. -/
def out (id : Int) (l : Tl) : Tl := l.filter fun y => !(y.1 == id)
theorem mem_out {id : Int} {l : Tl} {x : Int × Int} : x ∈ out id l ↔ x ∈ l ∧ x.1 ≠ id := by unfold out; simp
theorem out_none {id : Int} {l : Tl} (h : ∀ y ∈ l, y.1 ≠ id) : out id l = l := by
  unfold out
  exact List.filter_eq_self.2 fun y hy => by simp [h y hy]
theorem out_sub (id : Int) (l : Tl) : (out id l).Sublist l := List.filter_sublist
theorem out_length {id : Int} : ∀ {l : Tl}, (l.map (·.1)).Nodup → (∃ y ∈ l, y.1 = id) → (out id l).length + 1 = l.length
  | [], _, ⟨y, hy, _⟩ => by cases hy
  | x :: r, hn, h => by
    have hn' : x.1 ∉ r.map (·.1) ∧ (r.map (·.1)).Nodup := List.nodup_cons.1 hn
    by_cases hx : x.1 = id
    · have : out id (x :: r) = out id r := by unfold out; rw [List.filter_cons_of_neg]; simp [hx]
      rw [this, out_none fun y hy e => hn'.1 (by rw [hx, ← e]; exact List.mem_map_of_mem hy)]
      rfl
    · have : out id (x :: r) = x :: out id r := by unfold out; rw [List.filter_cons_of_pos]; simp [hx]
      rw [this]
      obtain ⟨y, hy, e⟩ := h
      rcases List.mem_cons.1 hy with rfl | hy
      · exact (hx e).elim
      · have := out_length hn'.2 ⟨y, hy, e⟩
        simp only [List.length_cons]; omega
theorem out_nodup {id : Int} {l : Tl} (h : (l.map (·.1)).Nodup) : ((out id l).map (·.1)).Nodup := h.sublist ((out_sub id l).map _)

def TmB (tb : Nat) (now : Int) (n mb clock : Nat) (es : Array MapEntry) (h : Nat → Int × Int) (B : List (Nat × Obj)) : Prop :=
  (n = 0 ∧ B = [(tb, .cells #[.int .i64 now, .slice none 0 0, .map (some mb)] 50 (0, 0)), (mb, .map es clock)]) ∨
  ∃ (hb cap : Nat) (cur : Array Value), n ≤ cap ∧ cap < 2 ^ 63 ∧ cur.size = cap * 2 ∧ Rows2 cur n h ∧ B = [(tb, .cells (tmV now hb n cap mb) 50 (0, 0)), (mb, .map es clock), (hb, .cells cur 53 (0, 0))]
/-- The blocks B are timers at tb: the time, and those of l. -/
def TmIs (tb : Nat) (now : Int) (l : Tl) (B : List (Nat × Obj)) : Prop :=
  ∃ (n mb clock : Nat) (es : Array MapEntry) (f : Int → Option Int) (h : Nat → Int × Int), MapIs es clock f ∧ Con n h f ∧ Heap n h ∧ n ≤ 1000 ∧ l.length = n ∧ (l.map (·.1)).Nodup ∧ (∀ x, x ∈ l ↔ In n h x) ∧ TmB tb now n mb clock es h B
theorem TmIs.nodup {tb : Nat} {now : Int} {l : Tl} {B : List (Nat × Obj)} (h : TmIs tb now l B) : (l.map (·.1)).Nodup := by obtain ⟨_, _, _, _, _, _, _, _, _, _, _, h, _⟩ := h; exact h
theorem TmIs.most {tb : Nat} {now : Int} {l : Tl} {B : List (Nat × Obj)} (h : TmIs tb now l B) : l.length ≤ 1000 := by obtain ⟨_, _, _, _, _, _, _, _, _, h, e, _⟩ := h; omega
theorem TmIs.head {tb : Nat} {now : Int} {l : Tl} {B : List (Nat × Obj)} (h : TmIs tb now l B) : ∃ (sl : Value) (mb : Nat) (R : List (Nat × Obj)), B = (tb, .cells #[.int .i64 now, sl, .map (some mb)] 50 (0, 0)) :: R ∧
    ∀ now', TmIs tb now' l ((tb, .cells #[.int .i64 now', sl, .map (some mb)] 50 (0, 0)) :: R) := by
  obtain ⟨n, mb, clock, es, f, h, h1, h2, h3, h4, h5, h6, h7, h8⟩ := h
  rcases h8 with ⟨hn, rfl⟩ | ⟨hb, cap, cur, g1, g2, g3, g4, rfl⟩
  · exact ⟨_, mb, _, rfl, fun now' => ⟨n, mb, clock, es, f, h, h1, h2, h3, h4, h5, h6, h7, .inl ⟨hn, rfl⟩⟩⟩
  · exact ⟨_, mb, _, rfl, fun now' => ⟨n, mb, clock, es, f, h, h1, h2, h3, h4, h5, h6, h7, .inr ⟨hb, cap, cur, g1, g2, g3, g4, rfl⟩⟩⟩
theorem TmIs.fresh (tb mb : Nat) : TmIs tb 0 [] [(tb, .cells #[.int .i64 0, .slice none 0 0, .map (some mb)] 50 (0, 0)), (mb, .map #[] 0)] :=
  ⟨0, mb, 0, #[], fun _ => none, fun _ => (0, 0), MapIs.empty 0, Con.none _, fun k h0 hk => (by omega), by omega, rfl, by simp, fun x => ⟨fun h => (by cases h), fun ⟨i, hi, _⟩ => (by omega)⟩, .inl ⟨rfl, rfl⟩⟩

/-- A call on timers: what they are ahead of it, what it answers, what they are behind it. -/
def TmCall (f : FuncId) (args : Array Value) (tb : Nat) (now : Int) (l : Tl) (v : Value) (now' : Int) (l' : Tl) : Prop :=
  ∀ w B, TmIs tb now l B → Mem w (B.map (·.1)) B w → Calls Try.prog f args w fun e w' => e = .returned v ∧ ∃ B', TmIs tb now' l' B' ∧ Mem w (B.map (·.1)) B' w'
theorem Mem.right {w0 w : World} {own : List Nat} : ∀ {A B : List (Nat × Obj)}, Mem w0 own (A ++ B) w → Mem w0 own B w
  | [], _, h => h
  | _ :: A, _, h => Mem.right (A := A) h.tail
theorem Mem.callBehind {w0 w w' : World} {own : List Nat} {A B M : List (Nat × Obj)} (h : Mem w0 own (A ++ B) w) (hx : Mem w (B.map (·.1)) M w') : Mem w0 own (A ++ M) w' :=
  (Mem.callOwn (h.perm List.perm_append_comm) hx).perm List.perm_append_comm
theorem TmCall.use {f : FuncId} {args : Array Value} {tb : Nat} {now : Int} {l : Tl} {v : Value} {now' : Int} {l' : Tl} (h : TmCall f args tb now l v now' l') {w0 w : World} {own : List Nat} {A B : List (Nat × Obj)} (hT : TmIs tb now l B) (hm : Mem w0 own (A ++ B) w) :
    Calls Try.prog f args w fun e w' => e = .returned v ∧ ∃ B', TmIs tb now' l' B' ∧ Mem w0 own (A ++ B') w' :=
  (h w B hT hm.right.self).mono fun e w' ⟨he, B', h1, h2⟩ => ⟨he, B', h1, hm.callBehind h2⟩

section
variable (tb : Nat) (now id x : Int) (l : Tl)
theorem tm_now : TmCall 17 #[.pointer (some ⟨tb, 0, none⟩)] tb now l (.int .i64 now) now l := fun w B hT hm => by
  obtain ⟨sl, mb, R, rfl, hT'⟩ := hT.head
  exact (now_c tb mb now w _ sl R hm).mono fun e w' ⟨he, hx⟩ => ⟨he, _, hT, hx⟩
theorem tm_size : TmCall 18 #[.pointer (some ⟨tb, 0, none⟩)] tb now l (.int .i64 (l.length : Int)) now l := fun w B hT hm => by
  have hT' := hT
  obtain ⟨n, mb, clock, es, f, h, h1, h2, h3, h4, h5, h6, h7, h8⟩ := hT'
  rw [h5]
  rcases h8 with ⟨rfl, rfl⟩ | ⟨hb, cap, cur, g1, g2, g3, g4, rfl⟩
  · exact (size_c tb mb 0 0 now w _ none _ hm).mono fun e w' ⟨he, hx⟩ => ⟨he, _, hT, hx⟩
  · exact (size_c tb mb n cap now w _ (some ⟨hb, 0, none⟩) _ hm).mono fun e w' ⟨he, hx⟩ => ⟨he, _, hT, hx⟩
theorem tm_next0 : TmCall 15 #[.pointer (some ⟨tb, 0, none⟩)] tb now [] (.tuple #[.int .i64 0, .int .i64 0, .bool false]) now [] := fun w B hT hm => by
  have hT' := hT
  obtain ⟨n, mb, clock, es, f, h, h1, h2, h3, h4, h5, h6, h7, h8⟩ := hT'
  obtain rfl : n = 0 := h5.symm
  rcases h8 with ⟨_, rfl⟩ | ⟨hb, cap, cur, g1, g2, g3, g4, rfl⟩
  · exact (next_0 tb mb 0 now w _ none _ hm).mono fun e w' ⟨he, hx⟩ => ⟨he, _, hT, hx⟩
  · exact (next_0 tb mb cap now w _ (some ⟨hb, 0, none⟩) _ hm).mono fun e w' ⟨he, hx⟩ => ⟨he, _, hT, hx⟩
/-- x is due first. -/
def First (l : Tl) (x : Int × Int) : Prop := x ∈ l ∧ ∀ y ∈ l, ahB y x = false
theorem First.eq {l : Tl} {x y : Int × Int} (hx : First l x) (hy : First l y) : x = y := by
  have h1 := hx.2 y hy.1
  have h2 := hy.2 x hx.1
  rw [ahB_false] at h1 h2
  exact Prod.ext (by omega) (by omega)
theorem tm_next1 (y : Int × Int) (hy : First l y) : TmCall 15 #[.pointer (some ⟨tb, 0, none⟩)] tb now l (.tuple #[.int .i64 y.1, .int .i64 y.2, .bool true]) now l := fun w B hT hm => by
  have hT' := hT
  obtain ⟨n, mb, clock, es, f, h, h1, h2, h3, h4, h5, h6, h7, h8⟩ := hT'
  obtain ⟨i, hi, hiy⟩ := (h7 y).1 hy.1
  have h0 : First l (h 0) := ⟨(h7 _).2 ⟨0, by omega, rfl⟩, fun z hz => by
    obtain ⟨k, hk, rfl⟩ := (h7 z).1 hz
    exact h3.least k hk⟩
  obtain rfl := h0.eq hy
  rcases h8 with ⟨rfl, rfl⟩ | ⟨hb, cap, cur, g1, g2, g3, g4, rfl⟩
  · omega
  · exact (next_1 tb mb hb n cap clock now es w _ cur h (by omega) g4 hm).mono fun e w' ⟨he, hx⟩ => ⟨he, _, hT, hx⟩
theorem tm_set_arg (ha : x < now) : TmCall 8 #[.pointer (some ⟨tb, 0, none⟩), .int .i64 id, .int .i64 x] tb now l (.int .i64 1) now l := fun w B hT hm => by
  have hT' := hT
  obtain ⟨n, mb, clock, es, f, h, h1, h2, h3, h4, h5, h6, h7, h8⟩ := hT'
  rcases h8 with ⟨rfl, rfl⟩ | ⟨hb, cap, cur, g1, g2, g3, g4, rfl⟩
  · exact (set_arg tb mb clock now id x es f w _ _ _ h1 ha hm).mono fun e w' ⟨he, hx⟩ => ⟨he, _, hT, hx⟩
  · exact (set_arg tb mb clock now id x es f w _ _ _ h1 ha hm).mono fun e w' ⟨he, hx⟩ => ⟨he, _, hT, hx⟩
theorem con_none {n : Nat} {h : Nat → Int × Int} {f : Int → Option Int} (hC : Con n h f) (h7 : ∀ x, x ∈ l ↔ In n h x) (hid : ∀ y ∈ l, y.1 ≠ id) : f id = none := by
  cases hf : f id with
  | none => rfl
  | some v =>
    obtain ⟨i, hi, _, e⟩ := (hC _ _).1 hf
    exact (hid _ ((h7 _).2 ⟨i, hi, rfl⟩) e).elim
theorem tm_set_full (ha : ¬ x < now) (hid : ∀ y ∈ l, y.1 ≠ id) (hl : l.length = 1000) : TmCall 8 #[.pointer (some ⟨tb, 0, none⟩), .int .i64 id, .int .i64 x] tb now l (.int .i64 12) now l := fun w B hT hm => by
  have hT' := hT
  obtain ⟨n, mb, clock, es, f, h, h1, h2, h3, h4, h5, h6, h7, h8⟩ := hT'
  have hf := con_none id l h2 h7 hid
  rcases h8 with ⟨rfl, rfl⟩ | ⟨hb, cap, cur, g1, g2, g3, g4, rfl⟩
  · omega
  · exact (set_full tb mb hb n cap clock now id x es f w _ _ h1 (by omega) hf ha hm).mono fun e w' ⟨he, hx⟩ => ⟨he, _, hT, hx⟩
/-- What is set. -/
def setL (id x : Int) (l : Tl) : Tl := out id l ++ [(id, x)]
theorem mem_setL {id x : Int} {l : Tl} {y : Int × Int} : y ∈ setL id x l ↔ (y ∈ l ∧ y.1 ≠ id) ∨ y = (id, x) := by unfold setL; rw [List.mem_append, mem_out, List.mem_singleton]
theorem setL_nodup {id x : Int} {l : Tl} (h : (l.map (·.1)).Nodup) : ((setL id x l).map (·.1)).Nodup := by
  unfold setL
  rw [List.map_append, List.nodup_append]
  refine ⟨out_nodup h, by simp, fun a ha b hb e => ?_⟩
  obtain ⟨p, hp, rfl⟩ := List.mem_map.1 ha
  simp only [List.map_cons, List.map_nil, List.mem_singleton] at hb
  exact (mem_out.1 hp).2 (by rw [e, hb])
theorem in_putH {n i : Nat} {h : Nat → Int × Int} {f : Int → Option Int} (hC : Con n h f) (hi : i < n) (y x : Int × Int) (e : (h i).1 = x.1) : In n (putH h i x) y ↔ (In n h y ∧ y.1 ≠ x.1) ∨ y = x := by
  constructor
  · rintro ⟨j, hj, rfl⟩
    unfold putH
    split
    · exact .inr rfl
    · rename_i hji
      exact .inl ⟨⟨j, hj, rfl⟩, fun q => hji (hC.inj hj hi (by rw [q, e]))⟩
  · rintro (⟨⟨j, hj, rfl⟩, hne⟩ | rfl)
    · exact ⟨j, hj, by unfold putH; rw [if_neg (fun q => hne (by rw [q, e]))]⟩
    · exact ⟨i, hi, by unfold putH; rw [if_pos rfl]⟩
theorem in_push {n : Nat} {h : Nat → Int × Int} (y x : Int × Int) : In (n + 1) (putH h n x) y ↔ In n h y ∨ y = x := by
  constructor
  · rintro ⟨j, hj, rfl⟩
    unfold putH
    split
    · exact .inr rfl
    · exact .inl ⟨j, by omega, rfl⟩
  · rintro (⟨j, hj, rfl⟩ | rfl)
    · exact ⟨j, by omega, by unfold putH; rw [if_neg (by omega)]⟩
    · exact ⟨n, by omega, by unfold putH; rw [if_pos rfl]⟩
theorem tm_set (ha : ¬ x < now) (hid : (∃ y ∈ l, y.1 = id) ∨ l.length < 1000) : TmCall 8 #[.pointer (some ⟨tb, 0, none⟩), .int .i64 id, .int .i64 x] tb now l (.int .i64 0) now (setL id x l) := fun w B hT hm => by
  obtain ⟨n, mb, clock, es, f, h, h1, h2, h3, h4, h5, h6, h7, h8⟩ := hT
  by_cases hex : ∃ y ∈ l, y.1 = id
  · have hlen := out_length h6 hex
    obtain ⟨y, hy, rfl⟩ := hex
    obtain ⟨i, hi, rfl⟩ := (h7 y).1 hy
    rcases h8 with ⟨rfl, rfl⟩ | ⟨hb, cap, cur, g1, g2, g3, g4, rfl⟩
    · omega
    · refine (set_old tb mb hb n cap clock now (h i).1 x es f w i cur h g1 h4 g3 g4 h1 hi h2 h3 rfl ha hm).mono fun e w' ⟨he, hx⟩ => ⟨he, ?_⟩
      obtain ⟨es', f', cur', h', k1, k2, k3, k4, k5, k6, k7⟩ := hx.out
      refine ⟨_, ⟨n, mb, clock, es', f', h', k1, k4, k5, h4, ?_, setL_nodup h6, fun y => ?_, .inr ⟨hb, cap, cur', g1, g2, k2, k3, rfl⟩⟩, k7⟩
      · unfold setL; rw [List.length_append]; simp only [List.length_singleton]; omega
      · rw [mem_setL, k6, h7]; exact (in_putH h2 hi y ((h i).1, x) rfl).symm
  · have hno : ∀ y ∈ l, y.1 ≠ id := fun y hy e => hex ⟨y, hy, e⟩
    have hl := hid.resolve_left hex
    have hf := con_none id l h2 h7 hno
    have e0 := out_none hno
    have fin : ∀ (h' : Nat → Int × Int), (∀ y, In (n + 1) h' y ↔ In (n + 1) (putH h n (id, x)) y) → ∀ y, y ∈ setL id x l ↔ In (n + 1) h' y := fun h' k6 y => by
      rw [mem_setL, k6, in_push, h7]
      constructor
      · rintro (⟨p, _⟩ | p)
        · exact .inl p
        · exact .inr p
      · rintro (p | p)
        · exact .inl ⟨p, hno y ((h7 y).2 p)⟩
        · exact .inr p
    have len : (setL id x l).length = n + 1 := by unfold setL; rw [e0, List.length_append]; simp only [List.length_singleton]; omega
    rcases h8 with ⟨rfl, rfl⟩ | ⟨hb, cap, cur, g1, g2, g3, g4, rfl⟩
    · refine (set_nil tb mb 0 clock now id x es f w h rfl h1 h2 h3 hf ha hm).mono fun e w' ⟨he, hx⟩ => ⟨he, ?_⟩
      obtain ⟨g', cap', es', clock', f', cur', h', k1, k2, k3, k4, k5, k6, k7, k8, k9⟩ := hx.out
      exact ⟨_, ⟨0 + 1, mb, clock', es', f', h', k3, k6, k7, by omega, len, setL_nodup h6, fin h' k8, .inr ⟨g', cap', cur', k1, k2, k4, k5, rfl⟩⟩, k9⟩
    · refine (set_new tb mb hb n cap clock now id x es f w cur h g1 (by omega) g2 g3 g4 h1 h2 h3 hf ha hm).mono fun e w' ⟨he, hx⟩ => ⟨he, ?_⟩
      obtain ⟨g', cap', es', clock', f', cur', h', k1, k2, k3, k4, k5, k6, k7, k8, k9⟩ := hx.out
      exact ⟨_, ⟨n + 1, mb, clock', es', f', h', k3, k6, k7, by omega, len, setL_nodup h6, fin h' k8, .inr ⟨g', cap', cur', k1, k2, k4, k5, rfl⟩⟩, k9⟩
theorem tm_cancel_no (hid : ∀ y ∈ l, y.1 ≠ id) : TmCall 10 #[.pointer (some ⟨tb, 0, none⟩), .int .i64 id] tb now l (.bool false) now l := fun w B hT hm => by
  have hT' := hT
  obtain ⟨n, mb, clock, es, f, h, h1, h2, h3, h4, h5, h6, h7, h8⟩ := hT'
  have hf := con_none id l h2 h7 hid
  rcases h8 with ⟨rfl, rfl⟩ | ⟨hb, cap, cur, g1, g2, g3, g4, rfl⟩
  · exact (cancel_not tb mb clock now id es f w _ _ _ h1 hf hm).mono fun e w' ⟨he, hx⟩ => ⟨he, _, hT, hx⟩
  · exact (cancel_not tb mb clock now id es f w _ _ _ h1 hf hm).mono fun e w' ⟨he, hx⟩ => ⟨he, _, hT, hx⟩
theorem tm_cancel (hid : ∃ y ∈ l, y.1 = id) : TmCall 10 #[.pointer (some ⟨tb, 0, none⟩), .int .i64 id] tb now l (.bool true) now (out id l) := fun w B hT hm => by
  obtain ⟨n, mb, clock, es, f, h, h1, h2, h3, h4, h5, h6, h7, h8⟩ := hT
  have hlen := out_length h6 hid
  obtain ⟨y, hy, rfl⟩ := hid
  obtain ⟨i, hi, rfl⟩ := (h7 y).1 hy
  rcases h8 with ⟨rfl, rfl⟩ | ⟨hb, cap, cur, g1, g2, g3, g4, rfl⟩
  · omega
  · obtain ⟨m, rfl⟩ : ∃ m, n = m + 1 := ⟨n - 1, by omega⟩
    refine (cancel_there tb mb hb cap clock now (h i).1 es f w m i cur h g1 h4 g3 g4 h1 hi h2 h3 rfl hm).mono fun e w' ⟨he, hx⟩ => ⟨he, ?_⟩
    obtain ⟨es', f', cur', h', k1, k2, k3, k4, k5, k6, k7⟩ := hx.out
    refine ⟨_, ⟨m, mb, clock, es', f', h', k1, k4, k5, by omega, by omega, out_nodup h6, fun y => ?_, .inr ⟨hb, cap, cur', by omega, g2, k2, k3, rfl⟩⟩, k7⟩
    rw [mem_out, k6, h7]
end
end Go.Proofs.Ythcpdjlomdchdaa
