/- What comes may be; its octets are octets. -/
import Derived.Test.YtkbblbgiheclfaaDoorP1
namespace Go.Proofs.YtkbblbgiheclfaaDoor

theorem may_dat {c : Int} (h : 0 ≤ c ∧ c ≤ 255) : mayI (datI c) = true := by
  unfold mayI smI kindI partsI datI oct
  simp [h.1, h.2]
theorem may_verb {v c : Int} (hv : 251 ≤ v ∧ v ≤ 254) (h : 0 ≤ c ∧ c ≤ 255) : mayI ⟨3, v, c, []⟩ = true := by
  unfold mayI smI kindI partsI oct
  simp [h.1, h.2, hv.1, hv.2]
theorem may_sub {o : Int} {l : List Int} (h : 0 ≤ o ∧ o ≤ 255) (hl : l.length ≤ 512) : mayI ⟨4, o, 0, l⟩ = true := by
  unfold mayI smI kindI partsI oct
  simp [h.1, h.2, hl]
/-- Items that may be. -/
def Mays (l : List It) : Prop := ∀ x ∈ l, mayI x = true
theorem Mays.nil : Mays [] := fun x hx => by cases hx
theorem Mays.one {x : It} (h : mayI x = true) : Mays [x] := fun y hy => by rw [List.mem_singleton.1 hy]; exact h
theorem Mays.app {a b : List It} (h : Mays a) (k : Mays b) : Mays (a ++ b) := fun x hx => (List.mem_append.1 hx).elim (h x) (k x)
theorem Octs.nil : Octs [] := fun x hx => by cases hx
theorem Octs.one {x : It} (h : Oct x.l) : Octs [x] := fun y hy => by rw [List.mem_singleton.1 hy]; exact h
theorem Octs.app {a b : List It} (h : Octs a) (k : Octs b) : Octs (a ++ b) := fun x hx => (List.mem_append.1 hx).elim (h x) (k x)

/-- A step's outcome: its octets are octets, what it tells may be. -/
def Good (p : Rd × List It) : Prop := Oct p.1.l ∧ Octs p.2 ∧ Mays p.2
theorem good_none {r : Rd} (h : Oct r.l) : Good (r, []) := ⟨h, Octs.nil, Mays.nil⟩
theorem good_in (i : Int) : Good (inR i, []) := good_none Oct.nil
theorem good_data {c : Int} (hc : 0 ≤ c ∧ c ≤ 255) : Good (dataF c) := by
  unfold dataF
  split
  · exact good_in 2
  · split <;> exact ⟨Oct.nil, Octs.one Oct.nil, Mays.one (may_dat hc)⟩
theorem good_cmd {c : Int} (hc : 0 ≤ c ∧ c ≤ 255) : Good (cmdF c) := by
  unfold cmdF
  split
  · exact ⟨Oct.nil, Octs.one Oct.nil, Mays.one (may_dat hc)⟩
  split
  · exact good_none Oct.nil
  split
  · exact good_in 4
  split
  · rename_i h
    exact ⟨Oct.nil, Octs.one Oct.nil, Mays.one h⟩
  · exact good_in 0
theorem good_keep {r : Rd} {c : Int} (ho : Oct r.l) (hc : 0 ≤ c ∧ c ≤ 255) : Good (keepF r c) := by
  unfold keepF
  split
  · exact good_in 7
  · exact good_none (Oct.app ho (Oct.one hc.1 hc.2))
theorem good_step {r : Rd} {c : Int} (hm : mayR r = true) (ho : Oct r.l) (hc : 0 ≤ c ∧ c ≤ 255) : Good (stepF r c) := by
  have hm' := (mayR_iff r).1 hm
  unfold stepF
  split
  · exact good_data hc
  split
  · unfold backF
    split
    · exact good_in 0
    · exact good_data hc
  split
  · exact good_cmd hc
  split
  · rename_i h3
    exact ⟨Oct.nil, Octs.one Oct.nil, Mays.one (may_verb (hm'.2.1 h3) hc)⟩
  split
  · exact good_none Oct.nil
  split
  · unfold subF
    split
    · exact good_none ho
    · exact good_keep ho hc
  split
  · unfold endF
    split
    · exact good_keep ho hc
    split
    · exact ⟨Oct.nil, Octs.one ho, Mays.one (may_sub ⟨hm'.1.2.2.2.2.1, hm'.1.2.2.2.2.2⟩ hm'.1.2.2.1)⟩
    · exact good_cmd hc
  split
  · unfold skipF
    split
    · exact good_in 8
    · exact good_none ho
  · unfold skeF
    split
    · exact good_in 7
    split
    · exact good_in 0
    · exact good_cmd hc
theorem good_feed : ∀ (bs : List Int) (r : Rd), mayR r = true → Oct r.l → Oct bs → Good (feedF r bs) := by
  intro bs
  induction bs with
  | nil => intro r _ ho _; exact good_none ho
  | cons c bs ih =>
    intro r hm ho hb
    have hc := hb c (by simp)
    obtain ⟨h1, h2, h3⟩ := good_step hm ho hc
    obtain ⟨g1, g2, g3⟩ := ih _ (may_step r hm c hc) h1 (fun x hx => hb x (by simp [hx]))
    exact ⟨g1, Octs.app h2 g2, Mays.app h3 g3⟩
theorem may_err {x : It} (h : mayI x = true) : errI x = 0 := by unfold errI; rw [h]; rfl
end Go.Proofs.YtkbblbgiheclfaaDoor
